-- Written by a program of mine (wip/tools/xprint.py) over the kit's print.py: printed functions and hand-proved ones side by side.
import Derived.Test.YtbfgblfhonpgaaaXx0
import Derived.Test.YtbfgblfhonpgaaaXx3
import Derived.Test.YtbfgblfhonpgaaaXx6
import Derived.Test.YtbfgblfhonpgaaaXx7
import Derived.Test.YtbfgblfhonpgaaaXx8
namespace Go.Proofs.Ytbfgblfhonpgaaa.X
open Go.RowKit Go.Proofs.YtbfgblfhonpgaaaW.PrintWords Go.Proofs.YtbfgblfhonpgaaaW.PrintLast Go.Proofs.YtbfgblfhonpgaaaW.PrintMore
attribute [local go_sem] max2_int min2_int max_two min_two max_three min_three max_four min_four   -- for this text's walks alone
set_option linter.unusedVariables false
set_option linter.unusedSimpArgs false

/-! ### cohousinglaw04_done_Union: function 102 -/
-- by hand: cohousing/cohousinglaw04.done@Union
section
open Go.RowKit Go.Proofs.YtbfgblfhonpgaaaW.PrintWords Go.Proofs.YtbfgblfhonpgaaaW.PrintLast Go.Proofs.YtbfgblfhonpgaaaW.PrintMore
def doneO (r : Option (List S30 × Int)) (x0 : Bool) : Option (List S30 × Bool) := r.bind fun t => some (t.1, if x0 = true then decide (t.2 = 0) else false)
theorem ldone_at (g : Nat) (x0 : Bool) (A0 : Option Addr) (c0 : Nat) (l0 : List S30) (A1 : Option Addr) (c1 : Nat) (l1 : List S30) (r1 : List S30) (r2 : Int) (w : World)
    (hg : Calls Try.prog g #[.slice A0 l0.length c0, .slice A1 l1.length c1] w fun e w' => ∃ v0_ : Value, e = .returned (.tuple #[v0_, .int .i64 r2]) ∧ Kd.R k30 30 w' w.heap.size (fun _ => True) v0_ r1 ∧ Below w.heap.size w w')
    (eg : ∀ args w, (callFunc g args).run Try.prog w = .ok (.enter g args) w) :
    Calls Try.prog 14 #[.bool x0, .func (.func g) #[] #[], .slice A0 l0.length c0, .slice A1 l1.length c1] w fun e w' => ∃ v0_ : Value, e = .returned (.tuple #[v0_, .bool (if x0 = true then decide (r2 = 0) else false)]) ∧ Kd.R k30 30 w' w.heap.size (fun _ => True) v0_ r1 ∧ Below w.heap.size w w' := by
  have HG := Lib.hid hg
  have EG := Lib.hid eg
  clear hg
  cases x0 with
  | true =>
    by_cases h0 : r2 = 0
    · subst h0
      go_enter Try.func14, Try.ntmps14
      go_wp2_with (go_at_fn g; refine HG.out.mono ?_; rintro e w1 ⟨v, rfl, ho, hb⟩; have HO := Lib.hid ho; have HB := Lib.hid hb; clear ho hb)
      go_ret2
      exact ⟨_, rfl, HO.out, HB.out⟩
    · have q1 : decide (r2 = 0) = false := decide_eq_false h0
      go_enter Try.func14, Try.ntmps14
      go_wp2_with (go_at_fn g; refine HG.out.mono ?_; rintro e w1 ⟨v, rfl, ho, hb⟩; have HO := Lib.hid ho; have HB := Lib.hid hb; clear ho hb)
      go_ret2
      exact ⟨_, by simp [h0], HO.out, HB.out⟩
  | false =>
    go_enter Try.func14, Try.ntmps14
    go_wp2_with (go_at_fn g; refine HG.out.mono ?_; rintro e w1 ⟨v, rfl, ho, hb⟩; have HO := Lib.hid ho; have HB := Lib.hid hb; clear ho hb)
    go_ret2
    exact ⟨_, rfl, HO.out, HB.out⟩
end
section
open Go.RowKit Go.Proofs.YtbfgblfhonpgaaaW.PrintWords Go.Proofs.YtbfgblfhonpgaaaW.PrintLast Go.Proofs.YtbfgblfhonpgaaaW.PrintMore
def cohousinglaw04_done_Union.f (k : Nat) (x0 : Bool) (l0 l1 : List S30) : Option (List S30 × Bool) := doneO (span_Union.f k l0 l1) x0
theorem cohousinglaw04_done_Union.mono : ∀ x0 l0 l1 k, LeO (cohousinglaw04_done_Union.f k x0 l0 l1) (cohousinglaw04_done_Union.f (k + 1) x0 l0 l1) := fun x0 l0 l1 k => LeO.bind (span_Union.mono l0 l1 k) (fun _ => LeO.refl _)
set_option maxHeartbeats 8000000 in
theorem cohousinglaw04_done_Union.calls (k : Nat) (x0 : Bool) (A0 : Option Addr) (c0 : Nat) (l0 : List S30) (A1 : Option Addr) (c1 : Nat) (l1 : List S30) (r1 : List S30) (r2 : Bool) (w : World) (hr0 : Kd.C k30 w A0 l0.length l0) (hc0 : l0.length ≤ c0) (hr1 : Kd.C k30 w A1 l1.length l1) (hc1 : l1.length ≤ c1) (h : cohousinglaw04_done_Union.f k x0 l0 l1 = some (r1, r2)) :
    Calls Try.prog 14 #[.bool x0, .func (.func 15) #[] #[], .slice A0 l0.length c0, .slice A1 l1.length c1] w fun e w' => ∃ v0_ : Value, e = .returned (.tuple #[v0_, .bool r2]) ∧ Kd.R k30 30 w' w.heap.size (fun _ => True) v0_ r1 ∧ Below w.heap.size w w' := by
  obtain ⟨⟨s1, s2⟩, h1, h2⟩ := Option.bind_eq_some_iff.mp h
  have h3 := Option.some.inj h2
  obtain ⟨rfl, rfl⟩ := Prod.mk.inj h3
  exact ldone_at 15 x0 A0 c0 l0 A1 c1 l1 s1 s2 w (span_Union.calls k A0 c0 l0 A1 c1 l1 s1 s2 w hr0 hc0 hr1 hc1 h1) (enters_of Try.func15 (by kernel_rfl) rfl)
end

/-! ### cohousinglaw04_done_Meet: function 103 -/
-- by hand: cohousing/cohousinglaw04.done@Meet
section
open Go.RowKit Go.Proofs.YtbfgblfhonpgaaaW.PrintWords Go.Proofs.YtbfgblfhonpgaaaW.PrintLast Go.Proofs.YtbfgblfhonpgaaaW.PrintMore
def cohousinglaw04_done_Meet.f (k : Nat) (x0 : Bool) (l0 l1 : List S30) : Option (List S30 × Bool) := doneO (span_Meet.f k l0 l1) x0
theorem cohousinglaw04_done_Meet.mono : ∀ x0 l0 l1 k, LeO (cohousinglaw04_done_Meet.f k x0 l0 l1) (cohousinglaw04_done_Meet.f (k + 1) x0 l0 l1) := fun x0 l0 l1 k => LeO.bind (span_Meet.mono l0 l1 k) (fun _ => LeO.refl _)
set_option maxHeartbeats 8000000 in
theorem cohousinglaw04_done_Meet.calls (k : Nat) (x0 : Bool) (A0 : Option Addr) (c0 : Nat) (l0 : List S30) (A1 : Option Addr) (c1 : Nat) (l1 : List S30) (r1 : List S30) (r2 : Bool) (w : World) (hr0 : Kd.C k30 w A0 l0.length l0) (hc0 : l0.length ≤ c0) (hr1 : Kd.C k30 w A1 l1.length l1) (hc1 : l1.length ≤ c1) (h : cohousinglaw04_done_Meet.f k x0 l0 l1 = some (r1, r2)) :
    Calls Try.prog 14 #[.bool x0, .func (.func 16) #[] #[], .slice A0 l0.length c0, .slice A1 l1.length c1] w fun e w' => ∃ v0_ : Value, e = .returned (.tuple #[v0_, .bool r2]) ∧ Kd.R k30 30 w' w.heap.size (fun _ => True) v0_ r1 ∧ Below w.heap.size w w' := by
  obtain ⟨⟨s1, s2⟩, h1, h2⟩ := Option.bind_eq_some_iff.mp h
  have h3 := Option.some.inj h2
  obtain ⟨rfl, rfl⟩ := Prod.mk.inj h3
  exact ldone_at 16 x0 A0 c0 l0 A1 c1 l1 s1 s2 w (span_Meet.calls k A0 c0 l0 A1 c1 l1 s1 s2 w hr0 hc0 hr1 hc1 h1) (enters_of Try.func16 (by kernel_rfl) rfl)
end

/-! ### cohousinglaw04_done_Without: function 104 -/
-- by hand: cohousing/cohousinglaw04.done@Without
section
open Go.RowKit Go.Proofs.YtbfgblfhonpgaaaW.PrintWords Go.Proofs.YtbfgblfhonpgaaaW.PrintLast Go.Proofs.YtbfgblfhonpgaaaW.PrintMore
def cohousinglaw04_done_Without.f (k : Nat) (x0 : Bool) (l0 l1 : List S30) : Option (List S30 × Bool) := doneO (span_Without.f k l0 l1) x0
theorem cohousinglaw04_done_Without.mono : ∀ x0 l0 l1 k, LeO (cohousinglaw04_done_Without.f k x0 l0 l1) (cohousinglaw04_done_Without.f (k + 1) x0 l0 l1) := fun x0 l0 l1 k => LeO.bind (span_Without.mono l0 l1 k) (fun _ => LeO.refl _)
set_option maxHeartbeats 8000000 in
theorem cohousinglaw04_done_Without.calls (k : Nat) (x0 : Bool) (A0 : Option Addr) (c0 : Nat) (l0 : List S30) (A1 : Option Addr) (c1 : Nat) (l1 : List S30) (r1 : List S30) (r2 : Bool) (w : World) (hr0 : Kd.C k30 w A0 l0.length l0) (hc0 : l0.length ≤ c0) (hr1 : Kd.C k30 w A1 l1.length l1) (hc1 : l1.length ≤ c1) (h : cohousinglaw04_done_Without.f k x0 l0 l1 = some (r1, r2)) :
    Calls Try.prog 14 #[.bool x0, .func (.func 13) #[] #[], .slice A0 l0.length c0, .slice A1 l1.length c1] w fun e w' => ∃ v0_ : Value, e = .returned (.tuple #[v0_, .bool r2]) ∧ Kd.R k30 30 w' w.heap.size (fun _ => True) v0_ r1 ∧ Below w.heap.size w w' := by
  obtain ⟨⟨s1, s2⟩, h1, h2⟩ := Option.bind_eq_some_iff.mp h
  have h3 := Option.some.inj h2
  obtain ⟨rfl, rfl⟩ := Prod.mk.inj h3
  exact ldone_at 13 x0 A0 c0 l0 A1 c1 l1 s1 s2 w (span_Without.calls k A0 c0 l0 A1 c1 l1 s1 s2 w hr0 hc0 hr1 hc1 h1) (enters_of Try.func13 (by kernel_rfl) rfl)
end

/-! ### cohousinglaw04_SpanLaws: function 4 -/
mutual
def cohousinglaw04_SpanLaws.j0 : Nat → List (S30) → List (S30) → List (S30) → Bool → Bool → Option (Bool)
  | 0, _, _, _, _, _ => none
  | k + 1, x0, x1, x2, x7, x47 => if x47 = true then (if x7 = true then (some true) else (none)) else ((cohousinglaw04_done_Union.f k true x0 x1).bind fun bt420 => ((cohousinglaw04_done_Union.f k bt420.2 x1 x0).bind fun bt424 => ((cohousinglaw04_done_Union.f k bt424.2 x1 x2).bind fun bt428 => ((cohousinglaw04_done_Union.f k bt428.2 bt420.1 x2).bind fun bt432 => ((cohousinglaw04_done_Union.f k bt432.2 x0 bt428.1).bind fun bt436 => ((cohousinglaw04_done_Union.f k bt436.2 x0 x0).bind fun bt440 => (if x7 = true then ((cohousingref04_Same.f k bt420.1 bt424.1).bind fun t444 => (if t444 = true then ((cohousingref04_Same.f k bt432.1 bt436.1).bind fun t445 => (if t445 = true then ((cohousingref04_Same.f k bt440.1 x0).bind fun t446 => (cohousinglaw04_SpanLaws.j1 k x0 x1 x2 t446 bt440.2 bt428.1)) else (cohousinglaw04_SpanLaws.j1 k x0 x1 x2 false bt440.2 bt428.1))) else (cohousinglaw04_SpanLaws.j1 k x0 x1 x2 false bt440.2 bt428.1))) else (cohousinglaw04_SpanLaws.j1 k x0 x1 x2 false bt440.2 bt428.1))))))))
def cohousinglaw04_SpanLaws.j1 : Nat → List (S30) → List (S30) → List (S30) → Bool → Bool → List (S30) → Option (Bool)
  | 0, _, _, _, _, _, _ => none
  | k + 1, x0, x1, x2, x7, x9, x11 => (cohousinglaw04_done_Meet.f k x9 x0 x1).bind fun bt447 => ((cohousinglaw04_done_Meet.f k bt447.2 x1 x0).bind fun bt451 => ((cohousinglaw04_done_Meet.f k bt451.2 x1 x2).bind fun bt455 => ((cohousinglaw04_done_Meet.f k bt455.2 bt447.1 x2).bind fun bt459 => ((cohousinglaw04_done_Meet.f k bt459.2 x0 bt455.1).bind fun bt463 => ((cohousinglaw04_done_Meet.f k bt463.2 x0 x0).bind fun bt467 => (if x7 = true then ((cohousingref04_Same.f k bt447.1 bt451.1).bind fun t471 => (if t471 = true then ((cohousingref04_Same.f k bt459.1 bt463.1).bind fun t472 => (if t472 = true then ((cohousingref04_Same.f k bt467.1 x0).bind fun t473 => (cohousinglaw04_SpanLaws.j2 k x0 x1 x2 t473 bt467.2 x11 bt447.1)) else (cohousinglaw04_SpanLaws.j2 k x0 x1 x2 false bt467.2 x11 bt447.1))) else (cohousinglaw04_SpanLaws.j2 k x0 x1 x2 false bt467.2 x11 bt447.1))) else (cohousinglaw04_SpanLaws.j2 k x0 x1 x2 false bt467.2 x11 bt447.1)))))))
def cohousinglaw04_SpanLaws.j2 : Nat → List (S30) → List (S30) → List (S30) → Bool → Bool → List (S30) → List (S30) → Option (Bool)
  | 0, _, _, _, _, _, _, _ => none
  | k + 1, x0, x1, x2, x7, x9, x11, x15 => (cohousinglaw04_done_Meet.f k x9 x0 x2).bind fun bt474 => ((cohousinglaw04_done_Meet.f k bt474.2 x0 x11).bind fun bt478 => ((cohousinglaw04_done_Union.f k bt478.2 x15 bt474.1).bind fun bt482 => (if x7 = true then ((cohousingref04_Same.f k bt478.1 bt482.1).bind fun t486 => (cohousinglaw04_SpanLaws.j3 k x0 x1 x2 t486 bt482.2 x11)) else (cohousinglaw04_SpanLaws.j3 k x0 x1 x2 false bt482.2 x11))))
def cohousinglaw04_SpanLaws.j3 : Nat → List (S30) → List (S30) → List (S30) → Bool → Bool → List (S30) → Option (Bool)
  | 0, _, _, _, _, _, _ => none
  | k + 1, x0, x1, x2, x7, x9, x11 => (cohousinglaw04_done_Without.f k x9 x0 x11).bind fun bt487 => ((cohousinglaw04_done_Without.f k bt487.2 x0 x1).bind fun bt491 => ((cohousinglaw04_done_Without.f k bt491.2 bt491.1 x2).bind fun bt495 => (if x7 = true then (if bt495.2 = true then ((cohousingref04_Same.f k bt487.1 bt495.1).bind fun t499 => (if t499 = true then (some true) else (none))) else (none)) else (none))))
end
def cohousinglaw04_SpanLaws.f (k : Nat) (l0 : List (S30)) (l1 : List (S30)) (l2 : List (S30)) : Option (Bool) := (cohousinglaw04_head.f k).bind fun t416 => ((span_Valid.f k l0).bind fun t417 => (if t417 = true then ((span_Valid.f k l1).bind fun t418 => (if t418 = true then ((span_Valid.f k l2).bind fun t419 => (if t419 = true then (if (l0.length : Int) > 200 then (cohousinglaw04_SpanLaws.j0 k l0 l1 l2 t416 true) else (if (l1.length : Int) > 200 then (cohousinglaw04_SpanLaws.j0 k l0 l1 l2 t416 true) else (cohousinglaw04_SpanLaws.j0 k l0 l1 l2 t416 (decide ((l2.length : Int) > 200))))) else (cohousinglaw04_SpanLaws.j0 k l0 l1 l2 t416 true))) else (cohousinglaw04_SpanLaws.j0 k l0 l1 l2 t416 true))) else (cohousinglaw04_SpanLaws.j0 k l0 l1 l2 t416 true)))
theorem cohousinglaw04_SpanLaws.mono_l : ∀ k, (∀ y0 y1 y2 y3 y4, LeO (cohousinglaw04_SpanLaws.j0 k y0 y1 y2 y3 y4) (cohousinglaw04_SpanLaws.j0 (k + 1) y0 y1 y2 y3 y4)) ∧ (∀ y0 y1 y2 y3 y4 y5, LeO (cohousinglaw04_SpanLaws.j1 k y0 y1 y2 y3 y4 y5) (cohousinglaw04_SpanLaws.j1 (k + 1) y0 y1 y2 y3 y4 y5)) ∧ (∀ y0 y1 y2 y3 y4 y5 y6, LeO (cohousinglaw04_SpanLaws.j2 k y0 y1 y2 y3 y4 y5 y6) (cohousinglaw04_SpanLaws.j2 (k + 1) y0 y1 y2 y3 y4 y5 y6)) ∧ (∀ y0 y1 y2 y3 y4 y5, LeO (cohousinglaw04_SpanLaws.j3 k y0 y1 y2 y3 y4 y5) (cohousinglaw04_SpanLaws.j3 (k + 1) y0 y1 y2 y3 y4 y5))
  | 0 => ⟨fun _ _ _ _ _ r h => by simp [cohousinglaw04_SpanLaws.j0] at h, fun _ _ _ _ _ _ r h => by simp [cohousinglaw04_SpanLaws.j1] at h, fun _ _ _ _ _ _ _ r h => by simp [cohousinglaw04_SpanLaws.j2] at h, fun _ _ _ _ _ _ r h => by simp [cohousinglaw04_SpanLaws.j3] at h⟩
  | k + 1 => by
    obtain ⟨ih0, ih1, ih2, ih3⟩ := cohousinglaw04_SpanLaws.mono_l k
    refine ⟨?_, ?_, ?_, ?_⟩
    · intro y0 y1 y2 y3 y4
      unfold cohousinglaw04_SpanLaws.j0
      repeat' first
      | (with_reducible exact ih0 _ _ _ _ _)
      | (with_reducible exact ih1 _ _ _ _ _ _)
      | (with_reducible exact ih2 _ _ _ _ _ _ _)
      | (with_reducible exact ih3 _ _ _ _ _ _)
      | (with_reducible exact cohousinglaw04_done_Meet.mono _ _ _ _)
      | (with_reducible exact cohousinglaw04_done_Union.mono _ _ _ _)
      | (with_reducible exact cohousinglaw04_done_Without.mono _ _ _ _)
      | (with_reducible exact cohousinglaw04_head.mono _)
      | (with_reducible exact cohousingref04_Same.mono _ _ _)
      | (with_reducible exact span_Valid.mono _ _)
      | (with_reducible exact LeO.refl _)
      | (with_reducible exact LeO.none _)
      | (with_reducible refine LeO.ite ?_ ?_)
      | (with_reducible refine LeO.bind ?_ (fun _ => ?_))
      | exact ih0 _ _ _ _ _
      | exact ih1 _ _ _ _ _ _
      | exact ih2 _ _ _ _ _ _ _
      | exact ih3 _ _ _ _ _ _
      | exact cohousinglaw04_done_Meet.mono _ _ _ _
      | exact cohousinglaw04_done_Union.mono _ _ _ _
      | exact cohousinglaw04_done_Without.mono _ _ _ _
      | exact cohousinglaw04_head.mono _
      | exact cohousingref04_Same.mono _ _ _
      | exact span_Valid.mono _ _
      | exact LeO.none _
      | refine LeO.ite ?_ ?_
      | refine LeO.bind ?_ (fun _ => ?_)
    · intro y0 y1 y2 y3 y4 y5
      unfold cohousinglaw04_SpanLaws.j1
      repeat' first
      | (with_reducible exact ih0 _ _ _ _ _)
      | (with_reducible exact ih1 _ _ _ _ _ _)
      | (with_reducible exact ih2 _ _ _ _ _ _ _)
      | (with_reducible exact ih3 _ _ _ _ _ _)
      | (with_reducible exact cohousinglaw04_done_Meet.mono _ _ _ _)
      | (with_reducible exact cohousinglaw04_done_Union.mono _ _ _ _)
      | (with_reducible exact cohousinglaw04_done_Without.mono _ _ _ _)
      | (with_reducible exact cohousinglaw04_head.mono _)
      | (with_reducible exact cohousingref04_Same.mono _ _ _)
      | (with_reducible exact span_Valid.mono _ _)
      | (with_reducible exact LeO.refl _)
      | (with_reducible exact LeO.none _)
      | (with_reducible refine LeO.ite ?_ ?_)
      | (with_reducible refine LeO.bind ?_ (fun _ => ?_))
      | exact ih0 _ _ _ _ _
      | exact ih1 _ _ _ _ _ _
      | exact ih2 _ _ _ _ _ _ _
      | exact ih3 _ _ _ _ _ _
      | exact cohousinglaw04_done_Meet.mono _ _ _ _
      | exact cohousinglaw04_done_Union.mono _ _ _ _
      | exact cohousinglaw04_done_Without.mono _ _ _ _
      | exact cohousinglaw04_head.mono _
      | exact cohousingref04_Same.mono _ _ _
      | exact span_Valid.mono _ _
      | exact LeO.none _
      | refine LeO.ite ?_ ?_
      | refine LeO.bind ?_ (fun _ => ?_)
    · intro y0 y1 y2 y3 y4 y5 y6
      unfold cohousinglaw04_SpanLaws.j2
      repeat' first
      | (with_reducible exact ih0 _ _ _ _ _)
      | (with_reducible exact ih1 _ _ _ _ _ _)
      | (with_reducible exact ih2 _ _ _ _ _ _ _)
      | (with_reducible exact ih3 _ _ _ _ _ _)
      | (with_reducible exact cohousinglaw04_done_Meet.mono _ _ _ _)
      | (with_reducible exact cohousinglaw04_done_Union.mono _ _ _ _)
      | (with_reducible exact cohousinglaw04_done_Without.mono _ _ _ _)
      | (with_reducible exact cohousinglaw04_head.mono _)
      | (with_reducible exact cohousingref04_Same.mono _ _ _)
      | (with_reducible exact span_Valid.mono _ _)
      | (with_reducible exact LeO.refl _)
      | (with_reducible exact LeO.none _)
      | (with_reducible refine LeO.ite ?_ ?_)
      | (with_reducible refine LeO.bind ?_ (fun _ => ?_))
      | exact ih0 _ _ _ _ _
      | exact ih1 _ _ _ _ _ _
      | exact ih2 _ _ _ _ _ _ _
      | exact ih3 _ _ _ _ _ _
      | exact cohousinglaw04_done_Meet.mono _ _ _ _
      | exact cohousinglaw04_done_Union.mono _ _ _ _
      | exact cohousinglaw04_done_Without.mono _ _ _ _
      | exact cohousinglaw04_head.mono _
      | exact cohousingref04_Same.mono _ _ _
      | exact span_Valid.mono _ _
      | exact LeO.none _
      | refine LeO.ite ?_ ?_
      | refine LeO.bind ?_ (fun _ => ?_)
    · intro y0 y1 y2 y3 y4 y5
      unfold cohousinglaw04_SpanLaws.j3
      repeat' first
      | (with_reducible exact ih0 _ _ _ _ _)
      | (with_reducible exact ih1 _ _ _ _ _ _)
      | (with_reducible exact ih2 _ _ _ _ _ _ _)
      | (with_reducible exact ih3 _ _ _ _ _ _)
      | (with_reducible exact cohousinglaw04_done_Meet.mono _ _ _ _)
      | (with_reducible exact cohousinglaw04_done_Union.mono _ _ _ _)
      | (with_reducible exact cohousinglaw04_done_Without.mono _ _ _ _)
      | (with_reducible exact cohousinglaw04_head.mono _)
      | (with_reducible exact cohousingref04_Same.mono _ _ _)
      | (with_reducible exact span_Valid.mono _ _)
      | (with_reducible exact LeO.refl _)
      | (with_reducible exact LeO.none _)
      | (with_reducible refine LeO.ite ?_ ?_)
      | (with_reducible refine LeO.bind ?_ (fun _ => ?_))
      | exact ih0 _ _ _ _ _
      | exact ih1 _ _ _ _ _ _
      | exact ih2 _ _ _ _ _ _ _
      | exact ih3 _ _ _ _ _ _
      | exact cohousinglaw04_done_Meet.mono _ _ _ _
      | exact cohousinglaw04_done_Union.mono _ _ _ _
      | exact cohousinglaw04_done_Without.mono _ _ _ _
      | exact cohousinglaw04_head.mono _
      | exact cohousingref04_Same.mono _ _ _
      | exact span_Valid.mono _ _
      | exact LeO.none _
      | refine LeO.ite ?_ ?_
      | refine LeO.bind ?_ (fun _ => ?_)
theorem cohousinglaw04_SpanLaws.mono : ∀ a0 a1 a2 k, LeO (cohousinglaw04_SpanLaws.f k a0 a1 a2) (cohousinglaw04_SpanLaws.f (k + 1) a0 a1 a2) := by
  intro a0 a1 a2 k
  obtain ⟨ih0, ih1, ih2, ih3⟩ := cohousinglaw04_SpanLaws.mono_l k
  unfold cohousinglaw04_SpanLaws.f
  repeat' first
      | (with_reducible exact ih0 _ _ _ _ _)
      | (with_reducible exact ih1 _ _ _ _ _ _)
      | (with_reducible exact ih2 _ _ _ _ _ _ _)
      | (with_reducible exact ih3 _ _ _ _ _ _)
      | (with_reducible exact cohousinglaw04_done_Meet.mono _ _ _ _)
      | (with_reducible exact cohousinglaw04_done_Union.mono _ _ _ _)
      | (with_reducible exact cohousinglaw04_done_Without.mono _ _ _ _)
      | (with_reducible exact cohousinglaw04_head.mono _)
      | (with_reducible exact cohousingref04_Same.mono _ _ _)
      | (with_reducible exact span_Valid.mono _ _)
      | (with_reducible exact LeO.refl _)
      | (with_reducible exact LeO.none _)
      | (with_reducible refine LeO.ite ?_ ?_)
      | (with_reducible refine LeO.bind ?_ (fun _ => ?_))
      | exact ih0 _ _ _ _ _
      | exact ih1 _ _ _ _ _ _
      | exact ih2 _ _ _ _ _ _ _
      | exact ih3 _ _ _ _ _ _
      | exact cohousinglaw04_done_Meet.mono _ _ _ _
      | exact cohousinglaw04_done_Union.mono _ _ _ _
      | exact cohousinglaw04_done_Without.mono _ _ _ _
      | exact cohousinglaw04_head.mono _
      | exact cohousingref04_Same.mono _ _ _
      | exact span_Valid.mono _ _
      | exact LeO.none _
      | refine LeO.ite ?_ ?_
      | refine LeO.bind ?_ (fun _ => ?_)
set_option maxHeartbeats 8000000 in
set_option maxRecDepth 100000 in
theorem cohousinglaw04_SpanLaws.calls (k : Nat) (A0 : Option Addr) (c0 : Nat) (l0 : List (S30)) (A1 : Option Addr) (c1 : Nat) (l1 : List (S30)) (A2 : Option Addr) (c2 : Nat) (l2 : List (S30)) (r : Bool) (w : World) (hr0 : Kd.C k30 w A0 l0.length l0) (hc0 : l0.length ≤ c0) (hr1 : Kd.C k30 w A1 l1.length l1) (hc1 : l1.length ≤ c1) (hr2 : Kd.C k30 w A2 l2.length l2) (hc2 : l2.length ≤ c2) (h : cohousinglaw04_SpanLaws.f k l0 l1 l2 = some r) :
    Calls Try.prog 4 #[.slice A0 l0.length c0, .slice A1 l1.length c1, .slice A2 l2.length c2] w fun e w' => e = .returned (.bool r) ∧ Below w.heap.size w w' := by
  have HR0 := Aside0.mk hr0
  have HC0 := Aside0.mk hc0
  clear hr0 hc0
  have HR1 := Aside0.mk hr1
  have HC1 := Aside0.mk hc1
  clear hr1 hc1
  have HR2 := Aside0.mk hr2
  have HC2 := Aside0.mk hc2
  clear hr2 hc2
  have HB := Aside0.mk (Below.refl w.heap.size w)
  have H : ((cohousinglaw04_head.f k).bind fun t416 => ((span_Valid.f k l0).bind fun t417 => (if t417 = true then ((span_Valid.f k l1).bind fun t418 => (if t418 = true then ((span_Valid.f k l2).bind fun t419 => (if t419 = true then (if (l0.length : Int) > 200 then (cohousinglaw04_SpanLaws.j0 k l0 l1 l2 t416 true) else (if (l1.length : Int) > 200 then (cohousinglaw04_SpanLaws.j0 k l0 l1 l2 t416 true) else (cohousinglaw04_SpanLaws.j0 k l0 l1 l2 t416 (decide ((l2.length : Int) > 200))))) else (cohousinglaw04_SpanLaws.j0 k l0 l1 l2 t416 true))) else (cohousinglaw04_SpanLaws.j0 k l0 l1 l2 t416 true))) else (cohousinglaw04_SpanLaws.j0 k l0 l1 l2 t416 true)))) = some r := h
  clear h
  replace H := Option.bind_eq_some_iff.mp H
  obtain ⟨t416, A40, H⟩ := H
  replace H : ((span_Valid.f k l0).bind fun t417 => (if t417 = true then ((span_Valid.f k l1).bind fun t418 => (if t418 = true then ((span_Valid.f k l2).bind fun t419 => (if t419 = true then (if (l0.length : Int) > 200 then (cohousinglaw04_SpanLaws.j0 k l0 l1 l2 t416 true) else (if (l1.length : Int) > 200 then (cohousinglaw04_SpanLaws.j0 k l0 l1 l2 t416 true) else (cohousinglaw04_SpanLaws.j0 k l0 l1 l2 t416 (decide ((l2.length : Int) > 200))))) else (cohousinglaw04_SpanLaws.j0 k l0 l1 l2 t416 true))) else (cohousinglaw04_SpanLaws.j0 k l0 l1 l2 t416 true))) else (cohousinglaw04_SpanLaws.j0 k l0 l1 l2 t416 true))) = some r := H
  have A4 := Aside0.mk A40
  clear A40
  have HC5 := Aside0.mk H
  clear H
  go_enter Try.func4, Try.ntmps4
  go_upto_region 2 with (first | ((with_reducible refine gate_callee (f := 9) rfl ?_); refine goesL_ (some 19) rfl rfl Try.func9 (by kernel_rfl) rfl #[] rfl (by (try simp only [List.map_toArray, List.map_cons, List.map_nil]); first | done | rfl | (simp only [List.length_drop, List.length_take]; rfl)) ?_; (with_reducible refine (cohousinglaw04_head.calls k  t416 _ A4.out).mono ?_); rintro e w6 ⟨rfl, hb⟩; refine ⟨_, rfl, ?_⟩; have n0_ := Aside0.mk (below_step (by repeat (first | (with_reducible first | exact HB.out | apply below_alloc | apply pw_below_drewN | apply below_drew1) | exact HB.out)) hb); clear HB; have HB := n0_; clear n0_; (try clear hb); (try clear hb2); (try clear hk); (try clear hi)))
  (try simp only [Act.put, List.setIfInBounds_toArray, List.set_cons_zero, List.set_cons_succ])
  go_cut [47] (fun v47 wc => ∃ (kq : Nat) (x47_4 : Bool), v47 = .bool x47_4 ∧ Aside0 (cohousinglaw04_SpanLaws.j0 kq l0 l1 l2 t416 x47_4 = some r) ∧ Aside0 (kq ≤ k) ∧ Aside0 (Below w.heap.size w wc))
  case first =>
    have H := HC5.out
    clear HC5
    replace H := Option.bind_eq_some_iff.mp H
    obtain ⟨t417, A70, H⟩ := H
    replace H : (if t417 = true then ((span_Valid.f k l1).bind fun t418 => (if t418 = true then ((span_Valid.f k l2).bind fun t419 => (if t419 = true then (if (l0.length : Int) > 200 then (cohousinglaw04_SpanLaws.j0 k l0 l1 l2 t416 true) else (if (l1.length : Int) > 200 then (cohousinglaw04_SpanLaws.j0 k l0 l1 l2 t416 true) else (cohousinglaw04_SpanLaws.j0 k l0 l1 l2 t416 (decide ((l2.length : Int) > 200))))) else (cohousinglaw04_SpanLaws.j0 k l0 l1 l2 t416 true))) else (cohousinglaw04_SpanLaws.j0 k l0 l1 l2 t416 true))) else (cohousinglaw04_SpanLaws.j0 k l0 l1 l2 t416 true)) = some r := H
    have A7 := Aside0.mk A70
    clear A70
    by_cases c8 : t417 = true
    · subst c8
      have H1 : ((span_Valid.f k l1).bind fun t418 => (if t418 = true then ((span_Valid.f k l2).bind fun t419 => (if t419 = true then (if (l0.length : Int) > 200 then (cohousinglaw04_SpanLaws.j0 k l0 l1 l2 t416 true) else (if (l1.length : Int) > 200 then (cohousinglaw04_SpanLaws.j0 k l0 l1 l2 t416 true) else (cohousinglaw04_SpanLaws.j0 k l0 l1 l2 t416 (decide ((l2.length : Int) > 200))))) else (cohousinglaw04_SpanLaws.j0 k l0 l1 l2 t416 true))) else (cohousinglaw04_SpanLaws.j0 k l0 l1 l2 t416 true))) = some r := by rw [if_pos rfl] at H; exact H
      clear H
      have H := H1
      clear H1
      replace H := Option.bind_eq_some_iff.mp H
      obtain ⟨t418, A90, H⟩ := H
      replace H : (if t418 = true then ((span_Valid.f k l2).bind fun t419 => (if t419 = true then (if (l0.length : Int) > 200 then (cohousinglaw04_SpanLaws.j0 k l0 l1 l2 t416 true) else (if (l1.length : Int) > 200 then (cohousinglaw04_SpanLaws.j0 k l0 l1 l2 t416 true) else (cohousinglaw04_SpanLaws.j0 k l0 l1 l2 t416 (decide ((l2.length : Int) > 200))))) else (cohousinglaw04_SpanLaws.j0 k l0 l1 l2 t416 true))) else (cohousinglaw04_SpanLaws.j0 k l0 l1 l2 t416 true)) = some r := H
      have A9 := Aside0.mk A90
      clear A90
      by_cases c10 : t418 = true
      · subst c10
        have H1 : ((span_Valid.f k l2).bind fun t419 => (if t419 = true then (if (l0.length : Int) > 200 then (cohousinglaw04_SpanLaws.j0 k l0 l1 l2 t416 true) else (if (l1.length : Int) > 200 then (cohousinglaw04_SpanLaws.j0 k l0 l1 l2 t416 true) else (cohousinglaw04_SpanLaws.j0 k l0 l1 l2 t416 (decide ((l2.length : Int) > 200))))) else (cohousinglaw04_SpanLaws.j0 k l0 l1 l2 t416 true))) = some r := by rw [if_pos rfl] at H; exact H
        clear H
        have H := H1
        clear H1
        replace H := Option.bind_eq_some_iff.mp H
        obtain ⟨t419, A110, H⟩ := H
        replace H : (if t419 = true then (if (l0.length : Int) > 200 then (cohousinglaw04_SpanLaws.j0 k l0 l1 l2 t416 true) else (if (l1.length : Int) > 200 then (cohousinglaw04_SpanLaws.j0 k l0 l1 l2 t416 true) else (cohousinglaw04_SpanLaws.j0 k l0 l1 l2 t416 (decide ((l2.length : Int) > 200))))) else (cohousinglaw04_SpanLaws.j0 k l0 l1 l2 t416 true)) = some r := H
        have A11 := Aside0.mk A110
        clear A110
        by_cases c12 : t419 = true
        · subst c12
          have H1 : (if (l0.length : Int) > 200 then (cohousinglaw04_SpanLaws.j0 k l0 l1 l2 t416 true) else (if (l1.length : Int) > 200 then (cohousinglaw04_SpanLaws.j0 k l0 l1 l2 t416 true) else (cohousinglaw04_SpanLaws.j0 k l0 l1 l2 t416 (decide ((l2.length : Int) > 200))))) = some r := by rw [if_pos rfl] at H; exact H
          clear H
          have H := H1
          clear H1
          by_cases c13 : (l0.length : Int) > 200
          · rw [if_pos c13] at H
            have c13b0 : decide (200 < (l0.length : Int)) = true := decide_eq_true c13
            have c13b1 : decide (200 < l0.length) = true := decide_eq_true (by omega)
            clear c13
            (first | rw [c13b0] | (simp only [i64_w, i32_w]; rw [c13b0]) | skip)
            as_aux_lemma =>
              have H' := Aside0.mk H
              clear H
              go_wp2_with (first | ((with_reducible refine gate_callee (f := 10) rfl ?_); refine goesL_ (some 21) rfl rfl Try.func10 (by kernel_rfl) rfl #[.slice A0 l0.length c0] rfl (by (try simp only [List.map_toArray, List.map_cons, List.map_nil]); first | done | rfl | (simp only [List.length_drop, List.length_take]; rfl)) ?_; (with_reducible refine (span_Valid.calls k _ _ l0 true _ ?side1 ?side2 A7.out).mono ?_); (case side1 => repeat (first | exact (Kd.C_below HR0.out HB.out) | (with_reducible refine Kd.C_alloc ?_ _) | (with_reducible refine Kd.C_drewN ?_ _) | (with_reducible refine Kd.C_drew ?_))); (case side2 => exact HC0.out); rintro e w14 ⟨rfl, hb⟩; refine ⟨_, rfl, ?_⟩; have n0_ := Aside0.mk (below_step (by repeat (first | (with_reducible first | exact HB.out | apply below_alloc | apply pw_below_drewN | apply below_drew1) | exact HB.out)) hb); clear HB; have HB := n0_; clear n0_; (try clear hb); (try clear hb2); (try clear hk); (try clear hi)) | (go_at_call 10; (with_reducible refine (span_Valid.calls k _ _ l1 true _ ?side1 ?side2 A9.out).mono ?_); (case side1 => repeat (first | exact (Kd.C_below HR1.out HB.out) | (with_reducible refine Kd.C_alloc ?_ _) | (with_reducible refine Kd.C_drewN ?_ _) | (with_reducible refine Kd.C_drew ?_))); (case side2 => exact HC1.out); rintro e w15 ⟨rfl, hb⟩; have n0_ := Aside0.mk (below_step (by repeat (first | (with_reducible first | exact HB.out | apply below_alloc | apply pw_below_drewN | apply below_drew1) | exact HB.out)) hb); clear HB; have HB := n0_; clear n0_; (try clear hb); (try clear hb2); (try clear hk); (try clear hi)) | (go_at_call 10; (with_reducible refine (span_Valid.calls k _ _ l2 true _ ?side1 ?side2 A11.out).mono ?_); (case side1 => repeat (first | exact (Kd.C_below HR2.out HB.out) | (with_reducible refine Kd.C_alloc ?_ _) | (with_reducible refine Kd.C_drewN ?_ _) | (with_reducible refine Kd.C_drew ?_))); (case side2 => exact HC2.out); rintro e w16 ⟨rfl, hb⟩; have n0_ := Aside0.mk (below_step (by repeat (first | (with_reducible first | exact HB.out | apply below_alloc | apply pw_below_drewN | apply below_drew1) | exact HB.out)) hb); clear HB; have HB := n0_; clear n0_; (try clear hb); (try clear hb2); (try clear hk); (try clear hi)))
              go_meet
              case rel => exact ⟨_, (true), (by first | rfl | (simp; done) | (simp [*]; done)), H', ⟨by first | omega | exact Nat.le_refl _⟩, ⟨by repeat (first | (with_reducible first | exact HB.out | apply below_alloc | apply pw_below_drewN | apply below_drew1) | exact HB.out)⟩⟩
          · rw [if_neg c13] at H
            have c13b0 : decide (200 < (l0.length : Int)) = false := decide_eq_false c13
            have c13b1 : decide (200 < l0.length) = false := decide_eq_false (by omega)
            clear c13
            (first | rw [c13b0] | (simp only [i64_w, i32_w]; rw [c13b0]) | skip)
            by_cases c17 : (l1.length : Int) > 200
            · rw [if_pos c17] at H
              have c17b0 : decide (200 < (l1.length : Int)) = true := decide_eq_true c17
              have c17b1 : decide (200 < l1.length) = true := decide_eq_true (by omega)
              clear c17
              as_aux_lemma =>
                have H' := Aside0.mk H
                clear H
                go_wp2_with (first | ((with_reducible refine gate_callee (f := 10) rfl ?_); refine goesL_ (some 21) rfl rfl Try.func10 (by kernel_rfl) rfl #[.slice A0 l0.length c0] rfl (by (try simp only [List.map_toArray, List.map_cons, List.map_nil]); first | done | rfl | (simp only [List.length_drop, List.length_take]; rfl)) ?_; (with_reducible refine (span_Valid.calls k _ _ l0 true _ ?side1 ?side2 A7.out).mono ?_); (case side1 => repeat (first | exact (Kd.C_below HR0.out HB.out) | (with_reducible refine Kd.C_alloc ?_ _) | (with_reducible refine Kd.C_drewN ?_ _) | (with_reducible refine Kd.C_drew ?_))); (case side2 => exact HC0.out); rintro e w18 ⟨rfl, hb⟩; refine ⟨_, rfl, ?_⟩; have n0_ := Aside0.mk (below_step (by repeat (first | (with_reducible first | exact HB.out | apply below_alloc | apply pw_below_drewN | apply below_drew1) | exact HB.out)) hb); clear HB; have HB := n0_; clear n0_; (try clear hb); (try clear hb2); (try clear hk); (try clear hi)) | (go_at_call 10; (with_reducible refine (span_Valid.calls k _ _ l1 true _ ?side1 ?side2 A9.out).mono ?_); (case side1 => repeat (first | exact (Kd.C_below HR1.out HB.out) | (with_reducible refine Kd.C_alloc ?_ _) | (with_reducible refine Kd.C_drewN ?_ _) | (with_reducible refine Kd.C_drew ?_))); (case side2 => exact HC1.out); rintro e w19 ⟨rfl, hb⟩; have n0_ := Aside0.mk (below_step (by repeat (first | (with_reducible first | exact HB.out | apply below_alloc | apply pw_below_drewN | apply below_drew1) | exact HB.out)) hb); clear HB; have HB := n0_; clear n0_; (try clear hb); (try clear hb2); (try clear hk); (try clear hi)) | (go_at_call 10; (with_reducible refine (span_Valid.calls k _ _ l2 true _ ?side1 ?side2 A11.out).mono ?_); (case side1 => repeat (first | exact (Kd.C_below HR2.out HB.out) | (with_reducible refine Kd.C_alloc ?_ _) | (with_reducible refine Kd.C_drewN ?_ _) | (with_reducible refine Kd.C_drew ?_))); (case side2 => exact HC2.out); rintro e w20 ⟨rfl, hb⟩; have n0_ := Aside0.mk (below_step (by repeat (first | (with_reducible first | exact HB.out | apply below_alloc | apply pw_below_drewN | apply below_drew1) | exact HB.out)) hb); clear HB; have HB := n0_; clear n0_; (try clear hb); (try clear hb2); (try clear hk); (try clear hi)))
                go_meet
                case rel => exact ⟨_, (true), (by first | rfl | (simp; done) | (simp [*]; done)), H', ⟨by first | omega | exact Nat.le_refl _⟩, ⟨by repeat (first | (with_reducible first | exact HB.out | apply below_alloc | apply pw_below_drewN | apply below_drew1) | exact HB.out)⟩⟩
            · rw [if_neg c17] at H
              have c17b0 : decide (200 < (l1.length : Int)) = false := decide_eq_false c17
              have c17b1 : decide (200 < l1.length) = false := decide_eq_false (by omega)
              clear c17
              as_aux_lemma =>
                have H' := Aside0.mk H
                clear H
                go_wp2_with (first | ((with_reducible refine gate_callee (f := 10) rfl ?_); refine goesL_ (some 21) rfl rfl Try.func10 (by kernel_rfl) rfl #[.slice A0 l0.length c0] rfl (by (try simp only [List.map_toArray, List.map_cons, List.map_nil]); first | done | rfl | (simp only [List.length_drop, List.length_take]; rfl)) ?_; (with_reducible refine (span_Valid.calls k _ _ l0 true _ ?side1 ?side2 A7.out).mono ?_); (case side1 => repeat (first | exact (Kd.C_below HR0.out HB.out) | (with_reducible refine Kd.C_alloc ?_ _) | (with_reducible refine Kd.C_drewN ?_ _) | (with_reducible refine Kd.C_drew ?_))); (case side2 => exact HC0.out); rintro e w21 ⟨rfl, hb⟩; refine ⟨_, rfl, ?_⟩; have n0_ := Aside0.mk (below_step (by repeat (first | (with_reducible first | exact HB.out | apply below_alloc | apply pw_below_drewN | apply below_drew1) | exact HB.out)) hb); clear HB; have HB := n0_; clear n0_; (try clear hb); (try clear hb2); (try clear hk); (try clear hi)) | (go_at_call 10; (with_reducible refine (span_Valid.calls k _ _ l1 true _ ?side1 ?side2 A9.out).mono ?_); (case side1 => repeat (first | exact (Kd.C_below HR1.out HB.out) | (with_reducible refine Kd.C_alloc ?_ _) | (with_reducible refine Kd.C_drewN ?_ _) | (with_reducible refine Kd.C_drew ?_))); (case side2 => exact HC1.out); rintro e w22 ⟨rfl, hb⟩; have n0_ := Aside0.mk (below_step (by repeat (first | (with_reducible first | exact HB.out | apply below_alloc | apply pw_below_drewN | apply below_drew1) | exact HB.out)) hb); clear HB; have HB := n0_; clear n0_; (try clear hb); (try clear hb2); (try clear hk); (try clear hi)) | (go_at_call 10; (with_reducible refine (span_Valid.calls k _ _ l2 true _ ?side1 ?side2 A11.out).mono ?_); (case side1 => repeat (first | exact (Kd.C_below HR2.out HB.out) | (with_reducible refine Kd.C_alloc ?_ _) | (with_reducible refine Kd.C_drewN ?_ _) | (with_reducible refine Kd.C_drew ?_))); (case side2 => exact HC2.out); rintro e w23 ⟨rfl, hb⟩; have n0_ := Aside0.mk (below_step (by repeat (first | (with_reducible first | exact HB.out | apply below_alloc | apply pw_below_drewN | apply below_drew1) | exact HB.out)) hb); clear HB; have HB := n0_; clear n0_; (try clear hb); (try clear hb2); (try clear hk); (try clear hi)))
                go_meet
                case rel => exact ⟨_, (decide ((l2.length : Int) > 200)), (by first | rfl | (simp; done) | (simp [*]; done)), H', ⟨by first | omega | exact Nat.le_refl _⟩, ⟨by repeat (first | (with_reducible first | exact HB.out | apply below_alloc | apply pw_below_drewN | apply below_drew1) | exact HB.out)⟩⟩
        · replace c12 := Bool.eq_false_iff.mpr c12
          subst c12
          have H1 : (cohousinglaw04_SpanLaws.j0 k l0 l1 l2 t416 true) = some r := by rw [if_neg (show ¬ (false = true) by decide)] at H; exact H
          clear H
          have H := H1
          clear H1
          as_aux_lemma =>
            have H' := Aside0.mk H
            clear H
            go_wp2_with (first | ((with_reducible refine gate_callee (f := 10) rfl ?_); refine goesL_ (some 21) rfl rfl Try.func10 (by kernel_rfl) rfl #[.slice A0 l0.length c0] rfl (by (try simp only [List.map_toArray, List.map_cons, List.map_nil]); first | done | rfl | (simp only [List.length_drop, List.length_take]; rfl)) ?_; (with_reducible refine (span_Valid.calls k _ _ l0 true _ ?side1 ?side2 A7.out).mono ?_); (case side1 => repeat (first | exact (Kd.C_below HR0.out HB.out) | (with_reducible refine Kd.C_alloc ?_ _) | (with_reducible refine Kd.C_drewN ?_ _) | (with_reducible refine Kd.C_drew ?_))); (case side2 => exact HC0.out); rintro e w24 ⟨rfl, hb⟩; refine ⟨_, rfl, ?_⟩; have n0_ := Aside0.mk (below_step (by repeat (first | (with_reducible first | exact HB.out | apply below_alloc | apply pw_below_drewN | apply below_drew1) | exact HB.out)) hb); clear HB; have HB := n0_; clear n0_; (try clear hb); (try clear hb2); (try clear hk); (try clear hi)) | (go_at_call 10; (with_reducible refine (span_Valid.calls k _ _ l1 true _ ?side1 ?side2 A9.out).mono ?_); (case side1 => repeat (first | exact (Kd.C_below HR1.out HB.out) | (with_reducible refine Kd.C_alloc ?_ _) | (with_reducible refine Kd.C_drewN ?_ _) | (with_reducible refine Kd.C_drew ?_))); (case side2 => exact HC1.out); rintro e w25 ⟨rfl, hb⟩; have n0_ := Aside0.mk (below_step (by repeat (first | (with_reducible first | exact HB.out | apply below_alloc | apply pw_below_drewN | apply below_drew1) | exact HB.out)) hb); clear HB; have HB := n0_; clear n0_; (try clear hb); (try clear hb2); (try clear hk); (try clear hi)) | (go_at_call 10; (with_reducible refine (span_Valid.calls k _ _ l2 false _ ?side1 ?side2 A11.out).mono ?_); (case side1 => repeat (first | exact (Kd.C_below HR2.out HB.out) | (with_reducible refine Kd.C_alloc ?_ _) | (with_reducible refine Kd.C_drewN ?_ _) | (with_reducible refine Kd.C_drew ?_))); (case side2 => exact HC2.out); rintro e w26 ⟨rfl, hb⟩; have n0_ := Aside0.mk (below_step (by repeat (first | (with_reducible first | exact HB.out | apply below_alloc | apply pw_below_drewN | apply below_drew1) | exact HB.out)) hb); clear HB; have HB := n0_; clear n0_; (try clear hb); (try clear hb2); (try clear hk); (try clear hi)))
            go_meet
            case rel => exact ⟨_, (true), (by first | rfl | (simp; done) | (simp [*]; done)), H', ⟨by first | omega | exact Nat.le_refl _⟩, ⟨by repeat (first | (with_reducible first | exact HB.out | apply below_alloc | apply pw_below_drewN | apply below_drew1) | exact HB.out)⟩⟩
      · replace c10 := Bool.eq_false_iff.mpr c10
        subst c10
        have H1 : (cohousinglaw04_SpanLaws.j0 k l0 l1 l2 t416 true) = some r := by rw [if_neg (show ¬ (false = true) by decide)] at H; exact H
        clear H
        have H := H1
        clear H1
        as_aux_lemma =>
          have H' := Aside0.mk H
          clear H
          go_wp2_with (first | ((with_reducible refine gate_callee (f := 10) rfl ?_); refine goesL_ (some 21) rfl rfl Try.func10 (by kernel_rfl) rfl #[.slice A0 l0.length c0] rfl (by (try simp only [List.map_toArray, List.map_cons, List.map_nil]); first | done | rfl | (simp only [List.length_drop, List.length_take]; rfl)) ?_; (with_reducible refine (span_Valid.calls k _ _ l0 true _ ?side1 ?side2 A7.out).mono ?_); (case side1 => repeat (first | exact (Kd.C_below HR0.out HB.out) | (with_reducible refine Kd.C_alloc ?_ _) | (with_reducible refine Kd.C_drewN ?_ _) | (with_reducible refine Kd.C_drew ?_))); (case side2 => exact HC0.out); rintro e w27 ⟨rfl, hb⟩; refine ⟨_, rfl, ?_⟩; have n0_ := Aside0.mk (below_step (by repeat (first | (with_reducible first | exact HB.out | apply below_alloc | apply pw_below_drewN | apply below_drew1) | exact HB.out)) hb); clear HB; have HB := n0_; clear n0_; (try clear hb); (try clear hb2); (try clear hk); (try clear hi)) | (go_at_call 10; (with_reducible refine (span_Valid.calls k _ _ l1 false _ ?side1 ?side2 A9.out).mono ?_); (case side1 => repeat (first | exact (Kd.C_below HR1.out HB.out) | (with_reducible refine Kd.C_alloc ?_ _) | (with_reducible refine Kd.C_drewN ?_ _) | (with_reducible refine Kd.C_drew ?_))); (case side2 => exact HC1.out); rintro e w28 ⟨rfl, hb⟩; have n0_ := Aside0.mk (below_step (by repeat (first | (with_reducible first | exact HB.out | apply below_alloc | apply pw_below_drewN | apply below_drew1) | exact HB.out)) hb); clear HB; have HB := n0_; clear n0_; (try clear hb); (try clear hb2); (try clear hk); (try clear hi)))
          go_meet
          case rel => exact ⟨_, (true), (by first | rfl | (simp; done) | (simp [*]; done)), H', ⟨by first | omega | exact Nat.le_refl _⟩, ⟨by repeat (first | (with_reducible first | exact HB.out | apply below_alloc | apply pw_below_drewN | apply below_drew1) | exact HB.out)⟩⟩
    · replace c8 := Bool.eq_false_iff.mpr c8
      subst c8
      have H1 : (cohousinglaw04_SpanLaws.j0 k l0 l1 l2 t416 true) = some r := by rw [if_neg (show ¬ (false = true) by decide)] at H; exact H
      clear H
      have H := H1
      clear H1
      as_aux_lemma =>
        have H' := Aside0.mk H
        clear H
        go_wp2_with (first | ((with_reducible refine gate_callee (f := 10) rfl ?_); refine goesL_ (some 21) rfl rfl Try.func10 (by kernel_rfl) rfl #[.slice A0 l0.length c0] rfl (by (try simp only [List.map_toArray, List.map_cons, List.map_nil]); first | done | rfl | (simp only [List.length_drop, List.length_take]; rfl)) ?_; (with_reducible refine (span_Valid.calls k _ _ l0 false _ ?side1 ?side2 A7.out).mono ?_); (case side1 => repeat (first | exact (Kd.C_below HR0.out HB.out) | (with_reducible refine Kd.C_alloc ?_ _) | (with_reducible refine Kd.C_drewN ?_ _) | (with_reducible refine Kd.C_drew ?_))); (case side2 => exact HC0.out); rintro e w29 ⟨rfl, hb⟩; refine ⟨_, rfl, ?_⟩; have n0_ := Aside0.mk (below_step (by repeat (first | (with_reducible first | exact HB.out | apply below_alloc | apply pw_below_drewN | apply below_drew1) | exact HB.out)) hb); clear HB; have HB := n0_; clear n0_; (try clear hb); (try clear hb2); (try clear hk); (try clear hi)))
        go_meet
        case rel => exact ⟨_, (true), (by first | rfl | (simp; done) | (simp [*]; done)), H', ⟨by first | omega | exact Nat.le_refl _⟩, ⟨by repeat (first | (with_reducible first | exact HB.out | apply below_alloc | apply pw_below_drewN | apply below_drew1) | exact HB.out)⟩⟩
  case rest =>
    clear HC5
    try clear c1
    try clear c2
    try clear p2
    try clear c4
    try clear c8
    try clear c9
    try clear c10
    try clear c12
    try clear c13
    try clear c13b0
    try clear c13b1
    try clear c17
    try clear c17b0
    try clear c17b1
    obtain ⟨kq, x47_4, rfl, HA, HJ4, HB⟩ := hcut
    cases kq with
    | zero => exact absurd HA.out (by simp [cohousinglaw04_SpanLaws.j0])
    | succ kj4 =>
      have H := HA.out
      clear HA
      simp only [cohousinglaw04_SpanLaws.j0] at H
      by_cases c30 : x47_4 = true
      · subst c30
        have H1 : (if t416 = true then (some true) else (none)) = some r := by rw [if_pos rfl] at H; exact H
        clear H
        have H := H1
        clear H1
        by_cases c31 : t416 = true
        · subst c31
          have H1 : (some true) = some r := by rw [if_pos rfl] at H; exact H
          clear H
          have H := H1
          clear H1
          as_aux_lemma =>
            obtain rfl := Option.some.inj H
            go_wp2
            go_ret
            exact ⟨by first | rfl | (simp [errW_none, errW_some] <;> rfl) | (simp [*, errW_none, errW_some] <;> rfl), by repeat (first | (with_reducible first | exact HB.out | apply below_alloc | apply pw_below_drewN | apply below_drew1) | exact HB.out)⟩
        · replace c31 := Bool.eq_false_iff.mpr c31
          subst c31
          have H1 : (none) = some r := by rw [if_neg (show ¬ (false = true) by decide)] at H; exact H
          clear H
          have H := H1
          clear H1
          exact absurd H (by simp)
      · replace c30 := Bool.eq_false_iff.mpr c30
        subst c30
        have H1 : ((cohousinglaw04_done_Union.f kj4 true l0 l1).bind fun bt420 => ((cohousinglaw04_done_Union.f kj4 bt420.2 l1 l0).bind fun bt424 => ((cohousinglaw04_done_Union.f kj4 bt424.2 l1 l2).bind fun bt428 => ((cohousinglaw04_done_Union.f kj4 bt428.2 bt420.1 l2).bind fun bt432 => ((cohousinglaw04_done_Union.f kj4 bt432.2 l0 bt428.1).bind fun bt436 => ((cohousinglaw04_done_Union.f kj4 bt436.2 l0 l0).bind fun bt440 => (if t416 = true then ((cohousingref04_Same.f kj4 bt420.1 bt424.1).bind fun t444 => (if t444 = true then ((cohousingref04_Same.f kj4 bt432.1 bt436.1).bind fun t445 => (if t445 = true then ((cohousingref04_Same.f kj4 bt440.1 l0).bind fun t446 => (cohousinglaw04_SpanLaws.j1 kj4 l0 l1 l2 t446 bt440.2 bt428.1)) else (cohousinglaw04_SpanLaws.j1 kj4 l0 l1 l2 false bt440.2 bt428.1))) else (cohousinglaw04_SpanLaws.j1 kj4 l0 l1 l2 false bt440.2 bt428.1))) else (cohousinglaw04_SpanLaws.j1 kj4 l0 l1 l2 false bt440.2 bt428.1)))))))) = some r := by rw [if_neg (show ¬ (false = true) by decide)] at H; exact H
        clear H
        have H := H1
        clear H1
        replace H := Option.bind_eq_some_iff.mp H
        obtain ⟨⟨t420, t421⟩, A320, H⟩ := H
        replace H : ((cohousinglaw04_done_Union.f kj4 t421 l1 l0).bind fun bt424 => ((cohousinglaw04_done_Union.f kj4 bt424.2 l1 l2).bind fun bt428 => ((cohousinglaw04_done_Union.f kj4 bt428.2 t420 l2).bind fun bt432 => ((cohousinglaw04_done_Union.f kj4 bt432.2 l0 bt428.1).bind fun bt436 => ((cohousinglaw04_done_Union.f kj4 bt436.2 l0 l0).bind fun bt440 => (if t416 = true then ((cohousingref04_Same.f kj4 t420 bt424.1).bind fun t444 => (if t444 = true then ((cohousingref04_Same.f kj4 bt432.1 bt436.1).bind fun t445 => (if t445 = true then ((cohousingref04_Same.f kj4 bt440.1 l0).bind fun t446 => (cohousinglaw04_SpanLaws.j1 kj4 l0 l1 l2 t446 bt440.2 bt428.1)) else (cohousinglaw04_SpanLaws.j1 kj4 l0 l1 l2 false bt440.2 bt428.1))) else (cohousinglaw04_SpanLaws.j1 kj4 l0 l1 l2 false bt440.2 bt428.1))) else (cohousinglaw04_SpanLaws.j1 kj4 l0 l1 l2 false bt440.2 bt428.1))))))) = some r := H
        have A32 := Aside0.mk A320
        clear A320
        replace H := Option.bind_eq_some_iff.mp H
        obtain ⟨⟨t424, t425⟩, A330, H⟩ := H
        replace H : ((cohousinglaw04_done_Union.f kj4 t425 l1 l2).bind fun bt428 => ((cohousinglaw04_done_Union.f kj4 bt428.2 t420 l2).bind fun bt432 => ((cohousinglaw04_done_Union.f kj4 bt432.2 l0 bt428.1).bind fun bt436 => ((cohousinglaw04_done_Union.f kj4 bt436.2 l0 l0).bind fun bt440 => (if t416 = true then ((cohousingref04_Same.f kj4 t420 t424).bind fun t444 => (if t444 = true then ((cohousingref04_Same.f kj4 bt432.1 bt436.1).bind fun t445 => (if t445 = true then ((cohousingref04_Same.f kj4 bt440.1 l0).bind fun t446 => (cohousinglaw04_SpanLaws.j1 kj4 l0 l1 l2 t446 bt440.2 bt428.1)) else (cohousinglaw04_SpanLaws.j1 kj4 l0 l1 l2 false bt440.2 bt428.1))) else (cohousinglaw04_SpanLaws.j1 kj4 l0 l1 l2 false bt440.2 bt428.1))) else (cohousinglaw04_SpanLaws.j1 kj4 l0 l1 l2 false bt440.2 bt428.1)))))) = some r := H
        have A33 := Aside0.mk A330
        clear A330
        replace H := Option.bind_eq_some_iff.mp H
        obtain ⟨⟨t428, t429⟩, A340, H⟩ := H
        replace H : ((cohousinglaw04_done_Union.f kj4 t429 t420 l2).bind fun bt432 => ((cohousinglaw04_done_Union.f kj4 bt432.2 l0 t428).bind fun bt436 => ((cohousinglaw04_done_Union.f kj4 bt436.2 l0 l0).bind fun bt440 => (if t416 = true then ((cohousingref04_Same.f kj4 t420 t424).bind fun t444 => (if t444 = true then ((cohousingref04_Same.f kj4 bt432.1 bt436.1).bind fun t445 => (if t445 = true then ((cohousingref04_Same.f kj4 bt440.1 l0).bind fun t446 => (cohousinglaw04_SpanLaws.j1 kj4 l0 l1 l2 t446 bt440.2 t428)) else (cohousinglaw04_SpanLaws.j1 kj4 l0 l1 l2 false bt440.2 t428))) else (cohousinglaw04_SpanLaws.j1 kj4 l0 l1 l2 false bt440.2 t428))) else (cohousinglaw04_SpanLaws.j1 kj4 l0 l1 l2 false bt440.2 t428))))) = some r := H
        have A34 := Aside0.mk A340
        clear A340
        replace H := Option.bind_eq_some_iff.mp H
        obtain ⟨⟨t432, t433⟩, A350, H⟩ := H
        replace H : ((cohousinglaw04_done_Union.f kj4 t433 l0 t428).bind fun bt436 => ((cohousinglaw04_done_Union.f kj4 bt436.2 l0 l0).bind fun bt440 => (if t416 = true then ((cohousingref04_Same.f kj4 t420 t424).bind fun t444 => (if t444 = true then ((cohousingref04_Same.f kj4 t432 bt436.1).bind fun t445 => (if t445 = true then ((cohousingref04_Same.f kj4 bt440.1 l0).bind fun t446 => (cohousinglaw04_SpanLaws.j1 kj4 l0 l1 l2 t446 bt440.2 t428)) else (cohousinglaw04_SpanLaws.j1 kj4 l0 l1 l2 false bt440.2 t428))) else (cohousinglaw04_SpanLaws.j1 kj4 l0 l1 l2 false bt440.2 t428))) else (cohousinglaw04_SpanLaws.j1 kj4 l0 l1 l2 false bt440.2 t428)))) = some r := H
        have A35 := Aside0.mk A350
        clear A350
        replace H := Option.bind_eq_some_iff.mp H
        obtain ⟨⟨t436, t437⟩, A360, H⟩ := H
        replace H : ((cohousinglaw04_done_Union.f kj4 t437 l0 l0).bind fun bt440 => (if t416 = true then ((cohousingref04_Same.f kj4 t420 t424).bind fun t444 => (if t444 = true then ((cohousingref04_Same.f kj4 t432 t436).bind fun t445 => (if t445 = true then ((cohousingref04_Same.f kj4 bt440.1 l0).bind fun t446 => (cohousinglaw04_SpanLaws.j1 kj4 l0 l1 l2 t446 bt440.2 t428)) else (cohousinglaw04_SpanLaws.j1 kj4 l0 l1 l2 false bt440.2 t428))) else (cohousinglaw04_SpanLaws.j1 kj4 l0 l1 l2 false bt440.2 t428))) else (cohousinglaw04_SpanLaws.j1 kj4 l0 l1 l2 false bt440.2 t428))) = some r := H
        have A36 := Aside0.mk A360
        clear A360
        replace H := Option.bind_eq_some_iff.mp H
        obtain ⟨⟨t440, t441⟩, A370, H⟩ := H
        replace H : (if t416 = true then ((cohousingref04_Same.f kj4 t420 t424).bind fun t444 => (if t444 = true then ((cohousingref04_Same.f kj4 t432 t436).bind fun t445 => (if t445 = true then ((cohousingref04_Same.f kj4 t440 l0).bind fun t446 => (cohousinglaw04_SpanLaws.j1 kj4 l0 l1 l2 t446 t441 t428)) else (cohousinglaw04_SpanLaws.j1 kj4 l0 l1 l2 false t441 t428))) else (cohousinglaw04_SpanLaws.j1 kj4 l0 l1 l2 false t441 t428))) else (cohousinglaw04_SpanLaws.j1 kj4 l0 l1 l2 false t441 t428)) = some r := H
        have A37 := Aside0.mk A370
        clear A370
        have HC38 := Aside0.mk H
        clear H
        go_upto_region 10 with (first | ((with_reducible refine gate_callee (f := 14) rfl ?_); refine goesL_ (some 52) rfl rfl Try.func14 (by kernel_rfl) rfl #[.bool true, .func (.func 15) #[] #[], .slice A0 l0.length c0, .slice A1 l1.length c1] rfl (by (try simp only [List.map_toArray, List.map_cons, List.map_nil]); first | done | rfl | (simp only [List.length_drop, List.length_take]; rfl)) ?_; (with_reducible refine (cohousinglaw04_done_Union.calls kj4 true _ _ l0 _ _ l1 t420 t421 _ ?side1 ?side2 ?side3 ?side4 A32.out).mono ?_); (case side1 => repeat (first | exact (Kd.C_below HR0.out HB.out) | (with_reducible refine Kd.C_alloc ?_ _) | (with_reducible refine Kd.C_drewN ?_ _) | (with_reducible refine Kd.C_drew ?_))); (case side2 => exact HC0.out); (case side3 => repeat (first | exact (Kd.C_below HR1.out HB.out) | (with_reducible refine Kd.C_alloc ?_ _) | (with_reducible refine Kd.C_drewN ?_ _) | (with_reducible refine Kd.C_drew ?_))); (case side4 => exact HC1.out); rintro e w39 ⟨v422, rfl, ho0, hb⟩; refine ⟨_, rfl, ?_⟩; have n0_ := Aside0.mk (Kd.R_lower ho0 (below_size (by repeat (first | (with_reducible first | exact HB.out | apply below_alloc | apply pw_below_drewN | apply below_drew1) | exact HB.out)))); have n1_ := Aside0.mk (below_step (by repeat (first | (with_reducible first | exact HB.out | apply below_alloc | apply pw_below_drewN | apply below_drew1) | exact HB.out)) hb); clear HB; have HO423 := n0_; have HB := n1_; clear n0_ n1_; (try clear hb); (try clear hb2); (try clear hk); (try clear hi); (try clear ho0)) | ((with_reducible refine gate_callee (f := 14) rfl ?_); refine goesL_ (some 59) rfl rfl Try.func14 (by kernel_rfl) rfl #[.bool t421, .func (.func 15) #[] #[], .slice A1 l1.length c1, .slice A0 l0.length c0] rfl (by (try simp only [List.map_toArray, List.map_cons, List.map_nil]); first | done | rfl | (simp only [List.length_drop, List.length_take]; rfl)) ?_; (with_reducible refine (cohousinglaw04_done_Union.calls kj4 t421 _ _ l1 _ _ l0 t424 t425 _ ?side1 ?side2 ?side3 ?side4 A33.out).mono ?_); (case side1 => repeat (first | exact (Kd.C_below HR1.out HB.out) | (with_reducible refine Kd.C_alloc ?_ _) | (with_reducible refine Kd.C_drewN ?_ _) | (with_reducible refine Kd.C_drew ?_))); (case side2 => exact HC1.out); (case side3 => repeat (first | exact (Kd.C_below HR0.out HB.out) | (with_reducible refine Kd.C_alloc ?_ _) | (with_reducible refine Kd.C_drewN ?_ _) | (with_reducible refine Kd.C_drew ?_))); (case side4 => exact HC0.out); rintro e w40 ⟨v426, rfl, ho0, hb⟩; refine ⟨_, rfl, ?_⟩; have n0_ := Aside0.mk (Kd.R_elder' (by (with_reducible repeat (first | apply Kd.R_alloc | apply Kd.R_drewN | apply Kd.R_drew)); exact HO423.out) (Kd.R_base ho0) hb); have n1_ := Aside0.mk (Kd.R_lower (Kd.R_new' ho0 (Kd.R_lt (by (with_reducible repeat (first | apply Kd.R_alloc | apply Kd.R_drewN | apply Kd.R_drew)); exact HO423.out))) (below_size (by repeat (first | (with_reducible first | exact HB.out | apply below_alloc | apply pw_below_drewN | apply below_drew1) | exact HB.out)))); have n2_ := Aside0.mk (below_step (by repeat (first | (with_reducible first | exact HB.out | apply below_alloc | apply pw_below_drewN | apply below_drew1) | exact HB.out)) hb); clear HO423; clear HB; have HO423 := n0_; have HO427 := n1_; have HB := n2_; clear n0_ n1_ n2_; (try clear hb); (try clear hb2); (try clear hk); (try clear hi); (try clear ho0)) | ((with_reducible refine gate_callee (f := 14) rfl ?_); refine goesL_ (some 66) rfl rfl Try.func14 (by kernel_rfl) rfl #[.bool t425, .func (.func 15) #[] #[], .slice A1 l1.length c1, .slice A2 l2.length c2] rfl (by (try simp only [List.map_toArray, List.map_cons, List.map_nil]); first | done | rfl | (simp only [List.length_drop, List.length_take]; rfl)) ?_; (with_reducible refine (cohousinglaw04_done_Union.calls kj4 t425 _ _ l1 _ _ l2 t428 t429 _ ?side1 ?side2 ?side3 ?side4 A34.out).mono ?_); (case side1 => repeat (first | exact (Kd.C_below HR1.out HB.out) | (with_reducible refine Kd.C_alloc ?_ _) | (with_reducible refine Kd.C_drewN ?_ _) | (with_reducible refine Kd.C_drew ?_))); (case side2 => exact HC1.out); (case side3 => repeat (first | exact (Kd.C_below HR2.out HB.out) | (with_reducible refine Kd.C_alloc ?_ _) | (with_reducible refine Kd.C_drewN ?_ _) | (with_reducible refine Kd.C_drew ?_))); (case side4 => exact HC2.out); rintro e w41 ⟨v430, rfl, ho0, hb⟩; refine ⟨_, rfl, ?_⟩; have n0_ := Aside0.mk (Kd.R_elder' (by (with_reducible repeat (first | apply Kd.R_alloc | apply Kd.R_drewN | apply Kd.R_drew)); exact HO423.out) (Kd.R_base ho0) hb); have n1_ := Aside0.mk (Kd.R_elder' (by (with_reducible repeat (first | apply Kd.R_alloc | apply Kd.R_drewN | apply Kd.R_drew)); exact HO427.out) (Kd.R_base ho0) hb); have n2_ := Aside0.mk (Kd.R_lower (Kd.R_new' (Kd.R_new' ho0 (Kd.R_lt (by (with_reducible repeat (first | apply Kd.R_alloc | apply Kd.R_drewN | apply Kd.R_drew)); exact HO423.out))) (Kd.R_lt (by (with_reducible repeat (first | apply Kd.R_alloc | apply Kd.R_drewN | apply Kd.R_drew)); exact HO427.out))) (below_size (by repeat (first | (with_reducible first | exact HB.out | apply below_alloc | apply pw_below_drewN | apply below_drew1) | exact HB.out)))); have n3_ := Aside0.mk (below_step (by repeat (first | (with_reducible first | exact HB.out | apply below_alloc | apply pw_below_drewN | apply below_drew1) | exact HB.out)) hb); clear HO423; clear HO427; clear HB; have HO423 := n0_; have HO427 := n1_; have HO431 := n2_; have HB := n3_; clear n0_ n1_ n2_ n3_; (try clear hb); (try clear hb2); (try clear hk); (try clear hi); (try clear ho0); obtain ⟨Ao42, co42, eo42⟩ := Kd.R_slice HO423.out; subst eo42) | ((with_reducible refine gate_callee (f := 14) rfl ?_); refine goesL_ (some 73) rfl rfl Try.func14 (by kernel_rfl) rfl #[.bool t429, .func (.func 15) #[] #[], .slice Ao42 t420.length co42, .slice A2 l2.length c2] rfl (by (try simp only [List.map_toArray, List.map_cons, List.map_nil]); first | done | rfl | (simp only [List.length_drop, List.length_take]; rfl)) ?_; (with_reducible refine (cohousinglaw04_done_Union.calls kj4 t429 _ _ t420 _ _ l2 t432 t433 _ ?side1 ?side2 ?side3 ?side4 A35.out).mono ?_); (case side1 => repeat (first | exact (Kd.R_reads' HO423.out).2.2 | (with_reducible refine Kd.C_alloc ?_ _) | (with_reducible refine Kd.C_drewN ?_ _) | (with_reducible refine Kd.C_drew ?_))); (case side2 => exact (Kd.R_reads' HO423.out).2.1); (case side3 => repeat (first | exact (Kd.C_below HR2.out HB.out) | (with_reducible refine Kd.C_alloc ?_ _) | (with_reducible refine Kd.C_drewN ?_ _) | (with_reducible refine Kd.C_drew ?_))); (case side4 => exact HC2.out); rintro e w43 ⟨v434, rfl, ho0, hb⟩; refine ⟨_, rfl, ?_⟩; have n0_ := Aside0.mk (Kd.R_elder' (by (with_reducible repeat (first | apply Kd.R_alloc | apply Kd.R_drewN | apply Kd.R_drew)); exact HO423.out) (Kd.R_base ho0) hb); have n1_ := Aside0.mk (Kd.R_elder' (by (with_reducible repeat (first | apply Kd.R_alloc | apply Kd.R_drewN | apply Kd.R_drew)); exact HO427.out) (Kd.R_base ho0) hb); have n2_ := Aside0.mk (Kd.R_elder' (by (with_reducible repeat (first | apply Kd.R_alloc | apply Kd.R_drewN | apply Kd.R_drew)); exact HO431.out) (Kd.R_base ho0) hb); have n3_ := Aside0.mk (Kd.R_lower (Kd.R_new' (Kd.R_new' (Kd.R_new' ho0 (Kd.R_lt (by (with_reducible repeat (first | apply Kd.R_alloc | apply Kd.R_drewN | apply Kd.R_drew)); exact HO423.out))) (Kd.R_lt (by (with_reducible repeat (first | apply Kd.R_alloc | apply Kd.R_drewN | apply Kd.R_drew)); exact HO427.out))) (Kd.R_lt (by (with_reducible repeat (first | apply Kd.R_alloc | apply Kd.R_drewN | apply Kd.R_drew)); exact HO431.out))) (below_size (by repeat (first | (with_reducible first | exact HB.out | apply below_alloc | apply pw_below_drewN | apply below_drew1) | exact HB.out)))); have n4_ := Aside0.mk (below_step (by repeat (first | (with_reducible first | exact HB.out | apply below_alloc | apply pw_below_drewN | apply below_drew1) | exact HB.out)) hb); clear HO423; clear HO427; clear HO431; clear HB; have HO423 := n0_; have HO427 := n1_; have HO431 := n2_; have HO435 := n3_; have HB := n4_; clear n0_ n1_ n2_ n3_ n4_; (try clear hb); (try clear hb2); (try clear hk); (try clear hi); (try clear ho0); obtain ⟨Ao44, co44, eo44⟩ := Kd.R_slice HO431.out; subst eo44) | ((with_reducible refine gate_callee (f := 14) rfl ?_); refine goesL_ (some 80) rfl rfl Try.func14 (by kernel_rfl) rfl #[.bool t433, .func (.func 15) #[] #[], .slice A0 l0.length c0, .slice Ao44 t428.length co44] rfl (by (try simp only [List.map_toArray, List.map_cons, List.map_nil]); first | done | rfl | (simp only [List.length_drop, List.length_take]; rfl)) ?_; (with_reducible refine (cohousinglaw04_done_Union.calls kj4 t433 _ _ l0 _ _ t428 t436 t437 _ ?side1 ?side2 ?side3 ?side4 A36.out).mono ?_); (case side1 => repeat (first | exact (Kd.C_below HR0.out HB.out) | (with_reducible refine Kd.C_alloc ?_ _) | (with_reducible refine Kd.C_drewN ?_ _) | (with_reducible refine Kd.C_drew ?_))); (case side2 => exact HC0.out); (case side3 => repeat (first | exact (Kd.R_reads' HO431.out).2.2 | (with_reducible refine Kd.C_alloc ?_ _) | (with_reducible refine Kd.C_drewN ?_ _) | (with_reducible refine Kd.C_drew ?_))); (case side4 => exact (Kd.R_reads' HO431.out).2.1); rintro e w45 ⟨v438, rfl, ho0, hb⟩; refine ⟨_, rfl, ?_⟩; have n0_ := Aside0.mk (Kd.R_elder' (by (with_reducible repeat (first | apply Kd.R_alloc | apply Kd.R_drewN | apply Kd.R_drew)); exact HO423.out) (Kd.R_base ho0) hb); have n1_ := Aside0.mk (Kd.R_elder' (by (with_reducible repeat (first | apply Kd.R_alloc | apply Kd.R_drewN | apply Kd.R_drew)); exact HO427.out) (Kd.R_base ho0) hb); have n2_ := Aside0.mk (Kd.R_elder' (by (with_reducible repeat (first | apply Kd.R_alloc | apply Kd.R_drewN | apply Kd.R_drew)); exact HO431.out) (Kd.R_base ho0) hb); have n3_ := Aside0.mk (Kd.R_elder' (by (with_reducible repeat (first | apply Kd.R_alloc | apply Kd.R_drewN | apply Kd.R_drew)); exact HO435.out) (Kd.R_base ho0) hb); have n4_ := Aside0.mk (Kd.R_lower (Kd.R_new' (Kd.R_new' (Kd.R_new' (Kd.R_new' ho0 (Kd.R_lt (by (with_reducible repeat (first | apply Kd.R_alloc | apply Kd.R_drewN | apply Kd.R_drew)); exact HO423.out))) (Kd.R_lt (by (with_reducible repeat (first | apply Kd.R_alloc | apply Kd.R_drewN | apply Kd.R_drew)); exact HO427.out))) (Kd.R_lt (by (with_reducible repeat (first | apply Kd.R_alloc | apply Kd.R_drewN | apply Kd.R_drew)); exact HO431.out))) (Kd.R_lt (by (with_reducible repeat (first | apply Kd.R_alloc | apply Kd.R_drewN | apply Kd.R_drew)); exact HO435.out))) (below_size (by repeat (first | (with_reducible first | exact HB.out | apply below_alloc | apply pw_below_drewN | apply below_drew1) | exact HB.out)))); have n5_ := Aside0.mk (below_step (by repeat (first | (with_reducible first | exact HB.out | apply below_alloc | apply pw_below_drewN | apply below_drew1) | exact HB.out)) hb); clear HO423; clear HO427; clear HO431; clear HO435; clear HB; have HO423 := n0_; have HO427 := n1_; have HO431 := n2_; have HO435 := n3_; have HO439 := n4_; have HB := n5_; clear n0_ n1_ n2_ n3_ n4_ n5_; (try clear hb); (try clear hb2); (try clear hk); (try clear hi); (try clear ho0)) | ((with_reducible refine gate_callee (f := 14) rfl ?_); refine goesL_ (some 87) rfl rfl Try.func14 (by kernel_rfl) rfl #[.bool t437, .func (.func 15) #[] #[], .slice A0 l0.length c0, .slice A0 l0.length c0] rfl (by (try simp only [List.map_toArray, List.map_cons, List.map_nil]); first | done | rfl | (simp only [List.length_drop, List.length_take]; rfl)) ?_; (with_reducible refine (cohousinglaw04_done_Union.calls kj4 t437 _ _ l0 _ _ l0 t440 t441 _ ?side1 ?side2 ?side3 ?side4 A37.out).mono ?_); (case side1 => repeat (first | exact (Kd.C_below HR0.out HB.out) | (with_reducible refine Kd.C_alloc ?_ _) | (with_reducible refine Kd.C_drewN ?_ _) | (with_reducible refine Kd.C_drew ?_))); (case side2 => exact HC0.out); (case side3 => repeat (first | exact (Kd.C_below HR0.out HB.out) | (with_reducible refine Kd.C_alloc ?_ _) | (with_reducible refine Kd.C_drewN ?_ _) | (with_reducible refine Kd.C_drew ?_))); (case side4 => exact HC0.out); rintro e w46 ⟨v442, rfl, ho0, hb⟩; refine ⟨_, rfl, ?_⟩; have n0_ := Aside0.mk (Kd.R_elder' (by (with_reducible repeat (first | apply Kd.R_alloc | apply Kd.R_drewN | apply Kd.R_drew)); exact HO423.out) (Kd.R_base ho0) hb); have n1_ := Aside0.mk (Kd.R_elder' (by (with_reducible repeat (first | apply Kd.R_alloc | apply Kd.R_drewN | apply Kd.R_drew)); exact HO427.out) (Kd.R_base ho0) hb); have n2_ := Aside0.mk (Kd.R_elder' (by (with_reducible repeat (first | apply Kd.R_alloc | apply Kd.R_drewN | apply Kd.R_drew)); exact HO431.out) (Kd.R_base ho0) hb); have n3_ := Aside0.mk (Kd.R_elder' (by (with_reducible repeat (first | apply Kd.R_alloc | apply Kd.R_drewN | apply Kd.R_drew)); exact HO435.out) (Kd.R_base ho0) hb); have n4_ := Aside0.mk (Kd.R_elder' (by (with_reducible repeat (first | apply Kd.R_alloc | apply Kd.R_drewN | apply Kd.R_drew)); exact HO439.out) (Kd.R_base ho0) hb); have n5_ := Aside0.mk (Kd.R_lower (Kd.R_new' (Kd.R_new' (Kd.R_new' (Kd.R_new' (Kd.R_new' ho0 (Kd.R_lt (by (with_reducible repeat (first | apply Kd.R_alloc | apply Kd.R_drewN | apply Kd.R_drew)); exact HO423.out))) (Kd.R_lt (by (with_reducible repeat (first | apply Kd.R_alloc | apply Kd.R_drewN | apply Kd.R_drew)); exact HO427.out))) (Kd.R_lt (by (with_reducible repeat (first | apply Kd.R_alloc | apply Kd.R_drewN | apply Kd.R_drew)); exact HO431.out))) (Kd.R_lt (by (with_reducible repeat (first | apply Kd.R_alloc | apply Kd.R_drewN | apply Kd.R_drew)); exact HO435.out))) (Kd.R_lt (by (with_reducible repeat (first | apply Kd.R_alloc | apply Kd.R_drewN | apply Kd.R_drew)); exact HO439.out))) (below_size (by repeat (first | (with_reducible first | exact HB.out | apply below_alloc | apply pw_below_drewN | apply below_drew1) | exact HB.out)))); have n6_ := Aside0.mk (below_step (by repeat (first | (with_reducible first | exact HB.out | apply below_alloc | apply pw_below_drewN | apply below_drew1) | exact HB.out)) hb); clear HO423; clear HO427; clear HO431; clear HO435; clear HO439; clear HB; have HO423 := n0_; have HO427 := n1_; have HO431 := n2_; have HO435 := n3_; have HO439 := n4_; have HO443 := n5_; have HB := n6_; clear n0_ n1_ n2_ n3_ n4_ n5_ n6_; (try clear hb); (try clear hb2); (try clear hk); (try clear hi); (try clear ho0)))
        (try simp only [Act.put, List.setIfInBounds_toArray, List.set_cons_zero, List.set_cons_succ])
        go_cut [7] (fun v7 wc => ∃ (kq : Nat) (x7_37 : Bool), v7 = .bool x7_37 ∧ Aside0 (cohousinglaw04_SpanLaws.j1 kq l0 l1 l2 x7_37 t441 t428 = some r) ∧ Aside0 (kq ≤ kj4) ∧ Aside0 (Kd.R k30 30 wc w.heap.size (fun _ => True) (.slice Ao44 t428.length co44) t428) ∧ Aside0 (Below w.heap.size w wc))
        case first =>
          have H := HC38.out
          clear HC38
          by_cases c47 : t416 = true
          · subst c47
            have H1 : ((cohousingref04_Same.f kj4 t420 t424).bind fun t444 => (if t444 = true then ((cohousingref04_Same.f kj4 t432 t436).bind fun t445 => (if t445 = true then ((cohousingref04_Same.f kj4 t440 l0).bind fun t446 => (cohousinglaw04_SpanLaws.j1 kj4 l0 l1 l2 t446 t441 t428)) else (cohousinglaw04_SpanLaws.j1 kj4 l0 l1 l2 false t441 t428))) else (cohousinglaw04_SpanLaws.j1 kj4 l0 l1 l2 false t441 t428))) = some r := by rw [if_pos rfl] at H; exact H
            clear H
            have H := H1
            clear H1
            replace H := Option.bind_eq_some_iff.mp H
            obtain ⟨t444, A480, H⟩ := H
            replace H : (if t444 = true then ((cohousingref04_Same.f kj4 t432 t436).bind fun t445 => (if t445 = true then ((cohousingref04_Same.f kj4 t440 l0).bind fun t446 => (cohousinglaw04_SpanLaws.j1 kj4 l0 l1 l2 t446 t441 t428)) else (cohousinglaw04_SpanLaws.j1 kj4 l0 l1 l2 false t441 t428))) else (cohousinglaw04_SpanLaws.j1 kj4 l0 l1 l2 false t441 t428)) = some r := H
            have A48 := Aside0.mk A480
            clear A480
            by_cases c49 : t444 = true
            · subst c49
              have H1 : ((cohousingref04_Same.f kj4 t432 t436).bind fun t445 => (if t445 = true then ((cohousingref04_Same.f kj4 t440 l0).bind fun t446 => (cohousinglaw04_SpanLaws.j1 kj4 l0 l1 l2 t446 t441 t428)) else (cohousinglaw04_SpanLaws.j1 kj4 l0 l1 l2 false t441 t428))) = some r := by rw [if_pos rfl] at H; exact H
              clear H
              have H := H1
              clear H1
              replace H := Option.bind_eq_some_iff.mp H
              obtain ⟨t445, A500, H⟩ := H
              replace H : (if t445 = true then ((cohousingref04_Same.f kj4 t440 l0).bind fun t446 => (cohousinglaw04_SpanLaws.j1 kj4 l0 l1 l2 t446 t441 t428)) else (cohousinglaw04_SpanLaws.j1 kj4 l0 l1 l2 false t441 t428)) = some r := H
              have A50 := Aside0.mk A500
              clear A500
              by_cases c51 : t445 = true
              · subst c51
                have H1 : ((cohousingref04_Same.f kj4 t440 l0).bind fun t446 => (cohousinglaw04_SpanLaws.j1 kj4 l0 l1 l2 t446 t441 t428)) = some r := by rw [if_pos rfl] at H; exact H
                clear H
                have H := H1
                clear H1
                replace H := Option.bind_eq_some_iff.mp H
                obtain ⟨t446, A520, H⟩ := H
                replace H : (cohousinglaw04_SpanLaws.j1 kj4 l0 l1 l2 t446 t441 t428) = some r := H
                have A52 := Aside0.mk A520
                clear A520
                as_aux_lemma =>
                  have H' := Aside0.mk H
                  clear H
                  obtain ⟨Ao53, co53, eo53⟩ := Kd.R_slice HO427.out
                  subst eo53
                  go_wp2_with (first | (go_at_call 12; (with_reducible refine (cohousingref04_Same.calls kj4 _ _ t420 _ _ t424 true _ ?side1 ?side2 ?side3 ?side4 A48.out).mono ?_); (case side1 => repeat (first | exact (Kd.R_reads' HO423.out).2.2 | (with_reducible refine Kd.C_alloc ?_ _) | (with_reducible refine Kd.C_drewN ?_ _) | (with_reducible refine Kd.C_drew ?_))); (case side2 => exact (Kd.R_reads' HO423.out).2.1); (case side3 => repeat (first | exact (Kd.R_reads' HO427.out).2.2 | (with_reducible refine Kd.C_alloc ?_ _) | (with_reducible refine Kd.C_drewN ?_ _) | (with_reducible refine Kd.C_drew ?_))); (case side4 => exact (Kd.R_reads' HO427.out).2.1); rintro e w' ⟨rfl, ⟨nd, rfl⟩⟩; obtain ⟨Ao54, co54, eo54⟩ := Kd.R_slice HO435.out; subst eo54; obtain ⟨Ao55, co55, eo55⟩ := Kd.R_slice HO439.out; subst eo55) | (go_at_call 12; (with_reducible refine (cohousingref04_Same.calls kj4 _ _ t432 _ _ t436 true _ ?side1 ?side2 ?side3 ?side4 A50.out).mono ?_); (case side1 => repeat (first | exact (Kd.R_reads' HO435.out).2.2 | (with_reducible refine Kd.C_alloc ?_ _) | (with_reducible refine Kd.C_drewN ?_ _) | (with_reducible refine Kd.C_drew ?_))); (case side2 => exact (Kd.R_reads' HO435.out).2.1); (case side3 => repeat (first | exact (Kd.R_reads' HO439.out).2.2 | (with_reducible refine Kd.C_alloc ?_ _) | (with_reducible refine Kd.C_drewN ?_ _) | (with_reducible refine Kd.C_drew ?_))); (case side4 => exact (Kd.R_reads' HO439.out).2.1); rintro e w' ⟨rfl, ⟨nd, rfl⟩⟩; obtain ⟨Ao56, co56, eo56⟩ := Kd.R_slice HO443.out; subst eo56) | (go_at_call 12; (with_reducible refine (cohousingref04_Same.calls kj4 _ _ t440 _ _ l0 t446 _ ?side1 ?side2 ?side3 ?side4 A52.out).mono ?_); (case side1 => repeat (first | exact (Kd.R_reads' HO443.out).2.2 | (with_reducible refine Kd.C_alloc ?_ _) | (with_reducible refine Kd.C_drewN ?_ _) | (with_reducible refine Kd.C_drew ?_))); (case side2 => exact (Kd.R_reads' HO443.out).2.1); (case side3 => repeat (first | exact (Kd.C_below HR0.out (by repeat (first | (with_reducible first | exact HB.out | apply below_alloc | apply pw_below_drewN | apply below_drew1) | exact HB.out))) | (with_reducible refine Kd.C_alloc ?_ _) | (with_reducible refine Kd.C_drewN ?_ _) | (with_reducible refine Kd.C_drew ?_))); (case side4 => exact HC0.out); rintro e w' ⟨rfl, ⟨nd, rfl⟩⟩))
                  go_meet
                  case rel => exact ⟨_, (t446), (by first | rfl | (simp; done) | (simp [*]; done)), H', ⟨by have := HJ4.out; first | omega | exact Nat.le_refl _⟩, ⟨by (with_reducible repeat (first | apply Kd.R_alloc | apply Kd.R_drewN | apply Kd.R_drew)); exact Kd.R_mono HO431.out (fun _ hk => trivial)⟩, ⟨by repeat (first | (with_reducible first | exact HB.out | apply below_alloc | apply pw_below_drewN | apply below_drew1) | exact HB.out)⟩⟩
              · replace c51 := Bool.eq_false_iff.mpr c51
                subst c51
                have H1 : (cohousinglaw04_SpanLaws.j1 kj4 l0 l1 l2 false t441 t428) = some r := by rw [if_neg (show ¬ (false = true) by decide)] at H; exact H
                clear H
                have H := H1
                clear H1
                as_aux_lemma =>
                  have H' := Aside0.mk H
                  clear H
                  obtain ⟨Ao57, co57, eo57⟩ := Kd.R_slice HO427.out
                  subst eo57
                  go_wp2_with (first | (go_at_call 12; (with_reducible refine (cohousingref04_Same.calls kj4 _ _ t420 _ _ t424 true _ ?side1 ?side2 ?side3 ?side4 A48.out).mono ?_); (case side1 => repeat (first | exact (Kd.R_reads' HO423.out).2.2 | (with_reducible refine Kd.C_alloc ?_ _) | (with_reducible refine Kd.C_drewN ?_ _) | (with_reducible refine Kd.C_drew ?_))); (case side2 => exact (Kd.R_reads' HO423.out).2.1); (case side3 => repeat (first | exact (Kd.R_reads' HO427.out).2.2 | (with_reducible refine Kd.C_alloc ?_ _) | (with_reducible refine Kd.C_drewN ?_ _) | (with_reducible refine Kd.C_drew ?_))); (case side4 => exact (Kd.R_reads' HO427.out).2.1); rintro e w' ⟨rfl, ⟨nd, rfl⟩⟩; obtain ⟨Ao58, co58, eo58⟩ := Kd.R_slice HO435.out; subst eo58; obtain ⟨Ao59, co59, eo59⟩ := Kd.R_slice HO439.out; subst eo59) | (go_at_call 12; (with_reducible refine (cohousingref04_Same.calls kj4 _ _ t432 _ _ t436 false _ ?side1 ?side2 ?side3 ?side4 A50.out).mono ?_); (case side1 => repeat (first | exact (Kd.R_reads' HO435.out).2.2 | (with_reducible refine Kd.C_alloc ?_ _) | (with_reducible refine Kd.C_drewN ?_ _) | (with_reducible refine Kd.C_drew ?_))); (case side2 => exact (Kd.R_reads' HO435.out).2.1); (case side3 => repeat (first | exact (Kd.R_reads' HO439.out).2.2 | (with_reducible refine Kd.C_alloc ?_ _) | (with_reducible refine Kd.C_drewN ?_ _) | (with_reducible refine Kd.C_drew ?_))); (case side4 => exact (Kd.R_reads' HO439.out).2.1); rintro e w' ⟨rfl, ⟨nd, rfl⟩⟩))
                  go_meet
                  case rel => exact ⟨_, (false), (by first | rfl | (simp; done) | (simp [*]; done)), H', ⟨by have := HJ4.out; first | omega | exact Nat.le_refl _⟩, ⟨by (with_reducible repeat (first | apply Kd.R_alloc | apply Kd.R_drewN | apply Kd.R_drew)); exact Kd.R_mono HO431.out (fun _ hk => trivial)⟩, ⟨by repeat (first | (with_reducible first | exact HB.out | apply below_alloc | apply pw_below_drewN | apply below_drew1) | exact HB.out)⟩⟩
            · replace c49 := Bool.eq_false_iff.mpr c49
              subst c49
              have H1 : (cohousinglaw04_SpanLaws.j1 kj4 l0 l1 l2 false t441 t428) = some r := by rw [if_neg (show ¬ (false = true) by decide)] at H; exact H
              clear H
              have H := H1
              clear H1
              as_aux_lemma =>
                have H' := Aside0.mk H
                clear H
                obtain ⟨Ao60, co60, eo60⟩ := Kd.R_slice HO427.out
                subst eo60
                go_wp2_with (first | (go_at_call 12; (with_reducible refine (cohousingref04_Same.calls kj4 _ _ t420 _ _ t424 false _ ?side1 ?side2 ?side3 ?side4 A48.out).mono ?_); (case side1 => repeat (first | exact (Kd.R_reads' HO423.out).2.2 | (with_reducible refine Kd.C_alloc ?_ _) | (with_reducible refine Kd.C_drewN ?_ _) | (with_reducible refine Kd.C_drew ?_))); (case side2 => exact (Kd.R_reads' HO423.out).2.1); (case side3 => repeat (first | exact (Kd.R_reads' HO427.out).2.2 | (with_reducible refine Kd.C_alloc ?_ _) | (with_reducible refine Kd.C_drewN ?_ _) | (with_reducible refine Kd.C_drew ?_))); (case side4 => exact (Kd.R_reads' HO427.out).2.1); rintro e w' ⟨rfl, ⟨nd, rfl⟩⟩))
                go_meet
                case rel => exact ⟨_, (false), (by first | rfl | (simp; done) | (simp [*]; done)), H', ⟨by have := HJ4.out; first | omega | exact Nat.le_refl _⟩, ⟨by (with_reducible repeat (first | apply Kd.R_alloc | apply Kd.R_drewN | apply Kd.R_drew)); exact Kd.R_mono HO431.out (fun _ hk => trivial)⟩, ⟨by repeat (first | (with_reducible first | exact HB.out | apply below_alloc | apply pw_below_drewN | apply below_drew1) | exact HB.out)⟩⟩
          · replace c47 := Bool.eq_false_iff.mpr c47
            subst c47
            have H1 : (cohousinglaw04_SpanLaws.j1 kj4 l0 l1 l2 false t441 t428) = some r := by rw [if_neg (show ¬ (false = true) by decide)] at H; exact H
            clear H
            have H := H1
            clear H1
            as_aux_lemma =>
              have H' := Aside0.mk H
              clear H
              go_wp2
              go_meet
              case rel => exact ⟨_, (false), (by first | rfl | (simp; done) | (simp [*]; done)), H', ⟨by have := HJ4.out; first | omega | exact Nat.le_refl _⟩, ⟨by (with_reducible repeat (first | apply Kd.R_alloc | apply Kd.R_drewN | apply Kd.R_drew)); exact Kd.R_mono HO431.out (fun _ hk => trivial)⟩, ⟨by repeat (first | (with_reducible first | exact HB.out | apply below_alloc | apply pw_below_drewN | apply below_drew1) | exact HB.out)⟩⟩
        case rest =>
          clear HC38
          try clear c1
          try clear c2
          try clear p2
          try clear c3
          try clear c4
          try clear c5
          try clear c8
          try clear c9
          try clear c10
          try clear c12
          try clear c13
          try clear c13b0
          try clear c13b1
          try clear c17
          try clear c17b0
          try clear c17b1
          try clear c30
          try clear c31
          try clear c47
          try clear c49
          try clear c51
          try clear p2
          obtain ⟨kq, x7_37, rfl, HA, HJ37, HO_11, HB⟩ := hcut
          cases kq with
          | zero => exact absurd HA.out (by simp [cohousinglaw04_SpanLaws.j1])
          | succ kj37 =>
            have H := HA.out
            clear HA
            simp only [cohousinglaw04_SpanLaws.j1] at H
            replace H := Option.bind_eq_some_iff.mp H
            obtain ⟨⟨t447, t448⟩, A610, H⟩ := H
            replace H : ((cohousinglaw04_done_Meet.f kj37 t448 l1 l0).bind fun bt451 => ((cohousinglaw04_done_Meet.f kj37 bt451.2 l1 l2).bind fun bt455 => ((cohousinglaw04_done_Meet.f kj37 bt455.2 t447 l2).bind fun bt459 => ((cohousinglaw04_done_Meet.f kj37 bt459.2 l0 bt455.1).bind fun bt463 => ((cohousinglaw04_done_Meet.f kj37 bt463.2 l0 l0).bind fun bt467 => (if x7_37 = true then ((cohousingref04_Same.f kj37 t447 bt451.1).bind fun t471 => (if t471 = true then ((cohousingref04_Same.f kj37 bt459.1 bt463.1).bind fun t472 => (if t472 = true then ((cohousingref04_Same.f kj37 bt467.1 l0).bind fun t473 => (cohousinglaw04_SpanLaws.j2 kj37 l0 l1 l2 t473 bt467.2 t428 t447)) else (cohousinglaw04_SpanLaws.j2 kj37 l0 l1 l2 false bt467.2 t428 t447))) else (cohousinglaw04_SpanLaws.j2 kj37 l0 l1 l2 false bt467.2 t428 t447))) else (cohousinglaw04_SpanLaws.j2 kj37 l0 l1 l2 false bt467.2 t428 t447))))))) = some r := H
            have A61 := Aside0.mk A610
            clear A610
            replace H := Option.bind_eq_some_iff.mp H
            obtain ⟨⟨t451, t452⟩, A620, H⟩ := H
            replace H : ((cohousinglaw04_done_Meet.f kj37 t452 l1 l2).bind fun bt455 => ((cohousinglaw04_done_Meet.f kj37 bt455.2 t447 l2).bind fun bt459 => ((cohousinglaw04_done_Meet.f kj37 bt459.2 l0 bt455.1).bind fun bt463 => ((cohousinglaw04_done_Meet.f kj37 bt463.2 l0 l0).bind fun bt467 => (if x7_37 = true then ((cohousingref04_Same.f kj37 t447 t451).bind fun t471 => (if t471 = true then ((cohousingref04_Same.f kj37 bt459.1 bt463.1).bind fun t472 => (if t472 = true then ((cohousingref04_Same.f kj37 bt467.1 l0).bind fun t473 => (cohousinglaw04_SpanLaws.j2 kj37 l0 l1 l2 t473 bt467.2 t428 t447)) else (cohousinglaw04_SpanLaws.j2 kj37 l0 l1 l2 false bt467.2 t428 t447))) else (cohousinglaw04_SpanLaws.j2 kj37 l0 l1 l2 false bt467.2 t428 t447))) else (cohousinglaw04_SpanLaws.j2 kj37 l0 l1 l2 false bt467.2 t428 t447)))))) = some r := H
            have A62 := Aside0.mk A620
            clear A620
            replace H := Option.bind_eq_some_iff.mp H
            obtain ⟨⟨t455, t456⟩, A630, H⟩ := H
            replace H : ((cohousinglaw04_done_Meet.f kj37 t456 t447 l2).bind fun bt459 => ((cohousinglaw04_done_Meet.f kj37 bt459.2 l0 t455).bind fun bt463 => ((cohousinglaw04_done_Meet.f kj37 bt463.2 l0 l0).bind fun bt467 => (if x7_37 = true then ((cohousingref04_Same.f kj37 t447 t451).bind fun t471 => (if t471 = true then ((cohousingref04_Same.f kj37 bt459.1 bt463.1).bind fun t472 => (if t472 = true then ((cohousingref04_Same.f kj37 bt467.1 l0).bind fun t473 => (cohousinglaw04_SpanLaws.j2 kj37 l0 l1 l2 t473 bt467.2 t428 t447)) else (cohousinglaw04_SpanLaws.j2 kj37 l0 l1 l2 false bt467.2 t428 t447))) else (cohousinglaw04_SpanLaws.j2 kj37 l0 l1 l2 false bt467.2 t428 t447))) else (cohousinglaw04_SpanLaws.j2 kj37 l0 l1 l2 false bt467.2 t428 t447))))) = some r := H
            have A63 := Aside0.mk A630
            clear A630
            replace H := Option.bind_eq_some_iff.mp H
            obtain ⟨⟨t459, t460⟩, A640, H⟩ := H
            replace H : ((cohousinglaw04_done_Meet.f kj37 t460 l0 t455).bind fun bt463 => ((cohousinglaw04_done_Meet.f kj37 bt463.2 l0 l0).bind fun bt467 => (if x7_37 = true then ((cohousingref04_Same.f kj37 t447 t451).bind fun t471 => (if t471 = true then ((cohousingref04_Same.f kj37 t459 bt463.1).bind fun t472 => (if t472 = true then ((cohousingref04_Same.f kj37 bt467.1 l0).bind fun t473 => (cohousinglaw04_SpanLaws.j2 kj37 l0 l1 l2 t473 bt467.2 t428 t447)) else (cohousinglaw04_SpanLaws.j2 kj37 l0 l1 l2 false bt467.2 t428 t447))) else (cohousinglaw04_SpanLaws.j2 kj37 l0 l1 l2 false bt467.2 t428 t447))) else (cohousinglaw04_SpanLaws.j2 kj37 l0 l1 l2 false bt467.2 t428 t447)))) = some r := H
            have A64 := Aside0.mk A640
            clear A640
            replace H := Option.bind_eq_some_iff.mp H
            obtain ⟨⟨t463, t464⟩, A650, H⟩ := H
            replace H : ((cohousinglaw04_done_Meet.f kj37 t464 l0 l0).bind fun bt467 => (if x7_37 = true then ((cohousingref04_Same.f kj37 t447 t451).bind fun t471 => (if t471 = true then ((cohousingref04_Same.f kj37 t459 t463).bind fun t472 => (if t472 = true then ((cohousingref04_Same.f kj37 bt467.1 l0).bind fun t473 => (cohousinglaw04_SpanLaws.j2 kj37 l0 l1 l2 t473 bt467.2 t428 t447)) else (cohousinglaw04_SpanLaws.j2 kj37 l0 l1 l2 false bt467.2 t428 t447))) else (cohousinglaw04_SpanLaws.j2 kj37 l0 l1 l2 false bt467.2 t428 t447))) else (cohousinglaw04_SpanLaws.j2 kj37 l0 l1 l2 false bt467.2 t428 t447))) = some r := H
            have A65 := Aside0.mk A650
            clear A650
            replace H := Option.bind_eq_some_iff.mp H
            obtain ⟨⟨t467, t468⟩, A660, H⟩ := H
            replace H : (if x7_37 = true then ((cohousingref04_Same.f kj37 t447 t451).bind fun t471 => (if t471 = true then ((cohousingref04_Same.f kj37 t459 t463).bind fun t472 => (if t472 = true then ((cohousingref04_Same.f kj37 t467 l0).bind fun t473 => (cohousinglaw04_SpanLaws.j2 kj37 l0 l1 l2 t473 t468 t428 t447)) else (cohousinglaw04_SpanLaws.j2 kj37 l0 l1 l2 false t468 t428 t447))) else (cohousinglaw04_SpanLaws.j2 kj37 l0 l1 l2 false t468 t428 t447))) else (cohousinglaw04_SpanLaws.j2 kj37 l0 l1 l2 false t468 t428 t447)) = some r := H
            have A66 := Aside0.mk A660
            clear A660
            have HC67 := Aside0.mk H
            clear H
            go_upto_region 17 with (first | ((with_reducible refine gate_callee (f := 14) rfl ?_); refine goesL_ (some 110) rfl rfl Try.func14 (by kernel_rfl) rfl #[.bool t441, .func (.func 16) #[] #[], .slice A0 l0.length c0, .slice A1 l1.length c1] rfl (by (try simp only [List.map_toArray, List.map_cons, List.map_nil]); first | done | rfl | (simp only [List.length_drop, List.length_take]; rfl)) ?_; (with_reducible refine (cohousinglaw04_done_Meet.calls kj37 t441 _ _ l0 _ _ l1 t447 t448 _ ?side1 ?side2 ?side3 ?side4 A61.out).mono ?_); (case side1 => repeat (first | exact (Kd.C_below HR0.out HB.out) | (with_reducible refine Kd.C_alloc ?_ _) | (with_reducible refine Kd.C_drewN ?_ _) | (with_reducible refine Kd.C_drew ?_))); (case side2 => exact HC0.out); (case side3 => repeat (first | exact (Kd.C_below HR1.out HB.out) | (with_reducible refine Kd.C_alloc ?_ _) | (with_reducible refine Kd.C_drewN ?_ _) | (with_reducible refine Kd.C_drew ?_))); (case side4 => exact HC1.out); rintro e w68 ⟨v449, rfl, ho0, hb⟩; refine ⟨_, rfl, ?_⟩; have n0_ := Aside0.mk (Kd.R_elder' (by (with_reducible repeat (first | apply Kd.R_alloc | apply Kd.R_drewN | apply Kd.R_drew)); exact HO_11.out) (Kd.R_base ho0) hb); have n1_ := Aside0.mk (Kd.R_lower (Kd.R_new' ho0 (Kd.R_lt (by (with_reducible repeat (first | apply Kd.R_alloc | apply Kd.R_drewN | apply Kd.R_drew)); exact HO_11.out))) (below_size (by repeat (first | (with_reducible first | exact HB.out | apply below_alloc | apply pw_below_drewN | apply below_drew1) | exact HB.out)))); have n2_ := Aside0.mk (below_step (by repeat (first | (with_reducible first | exact HB.out | apply below_alloc | apply pw_below_drewN | apply below_drew1) | exact HB.out)) hb); clear HO_11; clear HB; have HO_11 := n0_; have HO450 := n1_; have HB := n2_; clear n0_ n1_ n2_; (try clear hb); (try clear hb2); (try clear hk); (try clear hi); (try clear ho0)) | ((with_reducible refine gate_callee (f := 14) rfl ?_); refine goesL_ (some 117) rfl rfl Try.func14 (by kernel_rfl) rfl #[.bool t448, .func (.func 16) #[] #[], .slice A1 l1.length c1, .slice A0 l0.length c0] rfl (by (try simp only [List.map_toArray, List.map_cons, List.map_nil]); first | done | rfl | (simp only [List.length_drop, List.length_take]; rfl)) ?_; (with_reducible refine (cohousinglaw04_done_Meet.calls kj37 t448 _ _ l1 _ _ l0 t451 t452 _ ?side1 ?side2 ?side3 ?side4 A62.out).mono ?_); (case side1 => repeat (first | exact (Kd.C_below HR1.out HB.out) | (with_reducible refine Kd.C_alloc ?_ _) | (with_reducible refine Kd.C_drewN ?_ _) | (with_reducible refine Kd.C_drew ?_))); (case side2 => exact HC1.out); (case side3 => repeat (first | exact (Kd.C_below HR0.out HB.out) | (with_reducible refine Kd.C_alloc ?_ _) | (with_reducible refine Kd.C_drewN ?_ _) | (with_reducible refine Kd.C_drew ?_))); (case side4 => exact HC0.out); rintro e w69 ⟨v453, rfl, ho0, hb⟩; refine ⟨_, rfl, ?_⟩; have n0_ := Aside0.mk (Kd.R_elder' (by (with_reducible repeat (first | apply Kd.R_alloc | apply Kd.R_drewN | apply Kd.R_drew)); exact HO_11.out) (Kd.R_base ho0) hb); have n1_ := Aside0.mk (Kd.R_elder' (by (with_reducible repeat (first | apply Kd.R_alloc | apply Kd.R_drewN | apply Kd.R_drew)); exact HO450.out) (Kd.R_base ho0) hb); have n2_ := Aside0.mk (Kd.R_lower (Kd.R_new' (Kd.R_new' ho0 (Kd.R_lt (by (with_reducible repeat (first | apply Kd.R_alloc | apply Kd.R_drewN | apply Kd.R_drew)); exact HO_11.out))) (Kd.R_lt (by (with_reducible repeat (first | apply Kd.R_alloc | apply Kd.R_drewN | apply Kd.R_drew)); exact HO450.out))) (below_size (by repeat (first | (with_reducible first | exact HB.out | apply below_alloc | apply pw_below_drewN | apply below_drew1) | exact HB.out)))); have n3_ := Aside0.mk (below_step (by repeat (first | (with_reducible first | exact HB.out | apply below_alloc | apply pw_below_drewN | apply below_drew1) | exact HB.out)) hb); clear HO_11; clear HO450; clear HB; have HO_11 := n0_; have HO450 := n1_; have HO454 := n2_; have HB := n3_; clear n0_ n1_ n2_ n3_; (try clear hb); (try clear hb2); (try clear hk); (try clear hi); (try clear ho0)) | ((with_reducible refine gate_callee (f := 14) rfl ?_); refine goesL_ (some 124) rfl rfl Try.func14 (by kernel_rfl) rfl #[.bool t452, .func (.func 16) #[] #[], .slice A1 l1.length c1, .slice A2 l2.length c2] rfl (by (try simp only [List.map_toArray, List.map_cons, List.map_nil]); first | done | rfl | (simp only [List.length_drop, List.length_take]; rfl)) ?_; (with_reducible refine (cohousinglaw04_done_Meet.calls kj37 t452 _ _ l1 _ _ l2 t455 t456 _ ?side1 ?side2 ?side3 ?side4 A63.out).mono ?_); (case side1 => repeat (first | exact (Kd.C_below HR1.out HB.out) | (with_reducible refine Kd.C_alloc ?_ _) | (with_reducible refine Kd.C_drewN ?_ _) | (with_reducible refine Kd.C_drew ?_))); (case side2 => exact HC1.out); (case side3 => repeat (first | exact (Kd.C_below HR2.out HB.out) | (with_reducible refine Kd.C_alloc ?_ _) | (with_reducible refine Kd.C_drewN ?_ _) | (with_reducible refine Kd.C_drew ?_))); (case side4 => exact HC2.out); rintro e w70 ⟨v457, rfl, ho0, hb⟩; refine ⟨_, rfl, ?_⟩; have n0_ := Aside0.mk (Kd.R_elder' (by (with_reducible repeat (first | apply Kd.R_alloc | apply Kd.R_drewN | apply Kd.R_drew)); exact HO_11.out) (Kd.R_base ho0) hb); have n1_ := Aside0.mk (Kd.R_elder' (by (with_reducible repeat (first | apply Kd.R_alloc | apply Kd.R_drewN | apply Kd.R_drew)); exact HO450.out) (Kd.R_base ho0) hb); have n2_ := Aside0.mk (Kd.R_elder' (by (with_reducible repeat (first | apply Kd.R_alloc | apply Kd.R_drewN | apply Kd.R_drew)); exact HO454.out) (Kd.R_base ho0) hb); have n3_ := Aside0.mk (Kd.R_lower (Kd.R_new' (Kd.R_new' (Kd.R_new' ho0 (Kd.R_lt (by (with_reducible repeat (first | apply Kd.R_alloc | apply Kd.R_drewN | apply Kd.R_drew)); exact HO_11.out))) (Kd.R_lt (by (with_reducible repeat (first | apply Kd.R_alloc | apply Kd.R_drewN | apply Kd.R_drew)); exact HO450.out))) (Kd.R_lt (by (with_reducible repeat (first | apply Kd.R_alloc | apply Kd.R_drewN | apply Kd.R_drew)); exact HO454.out))) (below_size (by repeat (first | (with_reducible first | exact HB.out | apply below_alloc | apply pw_below_drewN | apply below_drew1) | exact HB.out)))); have n4_ := Aside0.mk (below_step (by repeat (first | (with_reducible first | exact HB.out | apply below_alloc | apply pw_below_drewN | apply below_drew1) | exact HB.out)) hb); clear HO_11; clear HO450; clear HO454; clear HB; have HO_11 := n0_; have HO450 := n1_; have HO454 := n2_; have HO458 := n3_; have HB := n4_; clear n0_ n1_ n2_ n3_ n4_; (try clear hb); (try clear hb2); (try clear hk); (try clear hi); (try clear ho0); obtain ⟨Ao71, co71, eo71⟩ := Kd.R_slice HO450.out; subst eo71) | ((with_reducible refine gate_callee (f := 14) rfl ?_); refine goesL_ (some 131) rfl rfl Try.func14 (by kernel_rfl) rfl #[.bool t456, .func (.func 16) #[] #[], .slice Ao71 t447.length co71, .slice A2 l2.length c2] rfl (by (try simp only [List.map_toArray, List.map_cons, List.map_nil]); first | done | rfl | (simp only [List.length_drop, List.length_take]; rfl)) ?_; (with_reducible refine (cohousinglaw04_done_Meet.calls kj37 t456 _ _ t447 _ _ l2 t459 t460 _ ?side1 ?side2 ?side3 ?side4 A64.out).mono ?_); (case side1 => repeat (first | exact (Kd.R_reads' HO450.out).2.2 | (with_reducible refine Kd.C_alloc ?_ _) | (with_reducible refine Kd.C_drewN ?_ _) | (with_reducible refine Kd.C_drew ?_))); (case side2 => exact (Kd.R_reads' HO450.out).2.1); (case side3 => repeat (first | exact (Kd.C_below HR2.out HB.out) | (with_reducible refine Kd.C_alloc ?_ _) | (with_reducible refine Kd.C_drewN ?_ _) | (with_reducible refine Kd.C_drew ?_))); (case side4 => exact HC2.out); rintro e w72 ⟨v461, rfl, ho0, hb⟩; refine ⟨_, rfl, ?_⟩; have n0_ := Aside0.mk (Kd.R_elder' (by (with_reducible repeat (first | apply Kd.R_alloc | apply Kd.R_drewN | apply Kd.R_drew)); exact HO_11.out) (Kd.R_base ho0) hb); have n1_ := Aside0.mk (Kd.R_elder' (by (with_reducible repeat (first | apply Kd.R_alloc | apply Kd.R_drewN | apply Kd.R_drew)); exact HO450.out) (Kd.R_base ho0) hb); have n2_ := Aside0.mk (Kd.R_elder' (by (with_reducible repeat (first | apply Kd.R_alloc | apply Kd.R_drewN | apply Kd.R_drew)); exact HO454.out) (Kd.R_base ho0) hb); have n3_ := Aside0.mk (Kd.R_elder' (by (with_reducible repeat (first | apply Kd.R_alloc | apply Kd.R_drewN | apply Kd.R_drew)); exact HO458.out) (Kd.R_base ho0) hb); have n4_ := Aside0.mk (Kd.R_lower (Kd.R_new' (Kd.R_new' (Kd.R_new' (Kd.R_new' ho0 (Kd.R_lt (by (with_reducible repeat (first | apply Kd.R_alloc | apply Kd.R_drewN | apply Kd.R_drew)); exact HO_11.out))) (Kd.R_lt (by (with_reducible repeat (first | apply Kd.R_alloc | apply Kd.R_drewN | apply Kd.R_drew)); exact HO450.out))) (Kd.R_lt (by (with_reducible repeat (first | apply Kd.R_alloc | apply Kd.R_drewN | apply Kd.R_drew)); exact HO454.out))) (Kd.R_lt (by (with_reducible repeat (first | apply Kd.R_alloc | apply Kd.R_drewN | apply Kd.R_drew)); exact HO458.out))) (below_size (by repeat (first | (with_reducible first | exact HB.out | apply below_alloc | apply pw_below_drewN | apply below_drew1) | exact HB.out)))); have n5_ := Aside0.mk (below_step (by repeat (first | (with_reducible first | exact HB.out | apply below_alloc | apply pw_below_drewN | apply below_drew1) | exact HB.out)) hb); clear HO_11; clear HO450; clear HO454; clear HO458; clear HB; have HO_11 := n0_; have HO450 := n1_; have HO454 := n2_; have HO458 := n3_; have HO462 := n4_; have HB := n5_; clear n0_ n1_ n2_ n3_ n4_ n5_; (try clear hb); (try clear hb2); (try clear hk); (try clear hi); (try clear ho0); obtain ⟨Ao73, co73, eo73⟩ := Kd.R_slice HO458.out; subst eo73) | ((with_reducible refine gate_callee (f := 14) rfl ?_); refine goesL_ (some 138) rfl rfl Try.func14 (by kernel_rfl) rfl #[.bool t460, .func (.func 16) #[] #[], .slice A0 l0.length c0, .slice Ao73 t455.length co73] rfl (by (try simp only [List.map_toArray, List.map_cons, List.map_nil]); first | done | rfl | (simp only [List.length_drop, List.length_take]; rfl)) ?_; (with_reducible refine (cohousinglaw04_done_Meet.calls kj37 t460 _ _ l0 _ _ t455 t463 t464 _ ?side1 ?side2 ?side3 ?side4 A65.out).mono ?_); (case side1 => repeat (first | exact (Kd.C_below HR0.out HB.out) | (with_reducible refine Kd.C_alloc ?_ _) | (with_reducible refine Kd.C_drewN ?_ _) | (with_reducible refine Kd.C_drew ?_))); (case side2 => exact HC0.out); (case side3 => repeat (first | exact (Kd.R_reads' HO458.out).2.2 | (with_reducible refine Kd.C_alloc ?_ _) | (with_reducible refine Kd.C_drewN ?_ _) | (with_reducible refine Kd.C_drew ?_))); (case side4 => exact (Kd.R_reads' HO458.out).2.1); rintro e w74 ⟨v465, rfl, ho0, hb⟩; refine ⟨_, rfl, ?_⟩; have n0_ := Aside0.mk (Kd.R_elder' (by (with_reducible repeat (first | apply Kd.R_alloc | apply Kd.R_drewN | apply Kd.R_drew)); exact HO_11.out) (Kd.R_base ho0) hb); have n1_ := Aside0.mk (Kd.R_elder' (by (with_reducible repeat (first | apply Kd.R_alloc | apply Kd.R_drewN | apply Kd.R_drew)); exact HO450.out) (Kd.R_base ho0) hb); have n2_ := Aside0.mk (Kd.R_elder' (by (with_reducible repeat (first | apply Kd.R_alloc | apply Kd.R_drewN | apply Kd.R_drew)); exact HO454.out) (Kd.R_base ho0) hb); have n3_ := Aside0.mk (Kd.R_elder' (by (with_reducible repeat (first | apply Kd.R_alloc | apply Kd.R_drewN | apply Kd.R_drew)); exact HO458.out) (Kd.R_base ho0) hb); have n4_ := Aside0.mk (Kd.R_elder' (by (with_reducible repeat (first | apply Kd.R_alloc | apply Kd.R_drewN | apply Kd.R_drew)); exact HO462.out) (Kd.R_base ho0) hb); have n5_ := Aside0.mk (Kd.R_lower (Kd.R_new' (Kd.R_new' (Kd.R_new' (Kd.R_new' (Kd.R_new' ho0 (Kd.R_lt (by (with_reducible repeat (first | apply Kd.R_alloc | apply Kd.R_drewN | apply Kd.R_drew)); exact HO_11.out))) (Kd.R_lt (by (with_reducible repeat (first | apply Kd.R_alloc | apply Kd.R_drewN | apply Kd.R_drew)); exact HO450.out))) (Kd.R_lt (by (with_reducible repeat (first | apply Kd.R_alloc | apply Kd.R_drewN | apply Kd.R_drew)); exact HO454.out))) (Kd.R_lt (by (with_reducible repeat (first | apply Kd.R_alloc | apply Kd.R_drewN | apply Kd.R_drew)); exact HO458.out))) (Kd.R_lt (by (with_reducible repeat (first | apply Kd.R_alloc | apply Kd.R_drewN | apply Kd.R_drew)); exact HO462.out))) (below_size (by repeat (first | (with_reducible first | exact HB.out | apply below_alloc | apply pw_below_drewN | apply below_drew1) | exact HB.out)))); have n6_ := Aside0.mk (below_step (by repeat (first | (with_reducible first | exact HB.out | apply below_alloc | apply pw_below_drewN | apply below_drew1) | exact HB.out)) hb); clear HO_11; clear HO450; clear HO454; clear HO458; clear HO462; clear HB; have HO_11 := n0_; have HO450 := n1_; have HO454 := n2_; have HO458 := n3_; have HO462 := n4_; have HO466 := n5_; have HB := n6_; clear n0_ n1_ n2_ n3_ n4_ n5_ n6_; (try clear hb); (try clear hb2); (try clear hk); (try clear hi); (try clear ho0)) | ((with_reducible refine gate_callee (f := 14) rfl ?_); refine goesL_ (some 145) rfl rfl Try.func14 (by kernel_rfl) rfl #[.bool t464, .func (.func 16) #[] #[], .slice A0 l0.length c0, .slice A0 l0.length c0] rfl (by (try simp only [List.map_toArray, List.map_cons, List.map_nil]); first | done | rfl | (simp only [List.length_drop, List.length_take]; rfl)) ?_; (with_reducible refine (cohousinglaw04_done_Meet.calls kj37 t464 _ _ l0 _ _ l0 t467 t468 _ ?side1 ?side2 ?side3 ?side4 A66.out).mono ?_); (case side1 => repeat (first | exact (Kd.C_below HR0.out HB.out) | (with_reducible refine Kd.C_alloc ?_ _) | (with_reducible refine Kd.C_drewN ?_ _) | (with_reducible refine Kd.C_drew ?_))); (case side2 => exact HC0.out); (case side3 => repeat (first | exact (Kd.C_below HR0.out HB.out) | (with_reducible refine Kd.C_alloc ?_ _) | (with_reducible refine Kd.C_drewN ?_ _) | (with_reducible refine Kd.C_drew ?_))); (case side4 => exact HC0.out); rintro e w75 ⟨v469, rfl, ho0, hb⟩; refine ⟨_, rfl, ?_⟩; have n0_ := Aside0.mk (Kd.R_elder' (by (with_reducible repeat (first | apply Kd.R_alloc | apply Kd.R_drewN | apply Kd.R_drew)); exact HO_11.out) (Kd.R_base ho0) hb); have n1_ := Aside0.mk (Kd.R_elder' (by (with_reducible repeat (first | apply Kd.R_alloc | apply Kd.R_drewN | apply Kd.R_drew)); exact HO450.out) (Kd.R_base ho0) hb); have n2_ := Aside0.mk (Kd.R_elder' (by (with_reducible repeat (first | apply Kd.R_alloc | apply Kd.R_drewN | apply Kd.R_drew)); exact HO454.out) (Kd.R_base ho0) hb); have n3_ := Aside0.mk (Kd.R_elder' (by (with_reducible repeat (first | apply Kd.R_alloc | apply Kd.R_drewN | apply Kd.R_drew)); exact HO458.out) (Kd.R_base ho0) hb); have n4_ := Aside0.mk (Kd.R_elder' (by (with_reducible repeat (first | apply Kd.R_alloc | apply Kd.R_drewN | apply Kd.R_drew)); exact HO462.out) (Kd.R_base ho0) hb); have n5_ := Aside0.mk (Kd.R_elder' (by (with_reducible repeat (first | apply Kd.R_alloc | apply Kd.R_drewN | apply Kd.R_drew)); exact HO466.out) (Kd.R_base ho0) hb); have n6_ := Aside0.mk (Kd.R_lower (Kd.R_new' (Kd.R_new' (Kd.R_new' (Kd.R_new' (Kd.R_new' (Kd.R_new' ho0 (Kd.R_lt (by (with_reducible repeat (first | apply Kd.R_alloc | apply Kd.R_drewN | apply Kd.R_drew)); exact HO_11.out))) (Kd.R_lt (by (with_reducible repeat (first | apply Kd.R_alloc | apply Kd.R_drewN | apply Kd.R_drew)); exact HO450.out))) (Kd.R_lt (by (with_reducible repeat (first | apply Kd.R_alloc | apply Kd.R_drewN | apply Kd.R_drew)); exact HO454.out))) (Kd.R_lt (by (with_reducible repeat (first | apply Kd.R_alloc | apply Kd.R_drewN | apply Kd.R_drew)); exact HO458.out))) (Kd.R_lt (by (with_reducible repeat (first | apply Kd.R_alloc | apply Kd.R_drewN | apply Kd.R_drew)); exact HO462.out))) (Kd.R_lt (by (with_reducible repeat (first | apply Kd.R_alloc | apply Kd.R_drewN | apply Kd.R_drew)); exact HO466.out))) (below_size (by repeat (first | (with_reducible first | exact HB.out | apply below_alloc | apply pw_below_drewN | apply below_drew1) | exact HB.out)))); have n7_ := Aside0.mk (below_step (by repeat (first | (with_reducible first | exact HB.out | apply below_alloc | apply pw_below_drewN | apply below_drew1) | exact HB.out)) hb); clear HO_11; clear HO450; clear HO454; clear HO458; clear HO462; clear HO466; clear HB; have HO_11 := n0_; have HO450 := n1_; have HO454 := n2_; have HO458 := n3_; have HO462 := n4_; have HO466 := n5_; have HO470 := n6_; have HB := n7_; clear n0_ n1_ n2_ n3_ n4_ n5_ n6_ n7_; (try clear hb); (try clear hb2); (try clear hk); (try clear hi); (try clear ho0)))
            (try simp only [Act.put, List.setIfInBounds_toArray, List.set_cons_zero, List.set_cons_succ])
            go_cut [7] (fun v7 wc => ∃ (kq : Nat) (x7_66 : Bool), v7 = .bool x7_66 ∧ Aside0 (cohousinglaw04_SpanLaws.j2 kq l0 l1 l2 x7_66 t468 t428 t447 = some r) ∧ Aside0 (kq ≤ kj37) ∧ Aside0 (Kd.R k30 30 wc w.heap.size (fun k_ => some k_ ≠ ((.slice Ao71 t447.length co71) : Value).ownBlock) (.slice Ao44 t428.length co44) t428) ∧ Aside0 (Kd.R k30 30 wc w.heap.size (fun k_ => some k_ ≠ ((.slice Ao44 t428.length co44) : Value).ownBlock) (.slice Ao71 t447.length co71) t447) ∧ Aside0 (Below w.heap.size w wc))
            case first =>
              have H := HC67.out
              clear HC67
              by_cases c76 : x7_37 = true
              · subst c76
                have H1 : ((cohousingref04_Same.f kj37 t447 t451).bind fun t471 => (if t471 = true then ((cohousingref04_Same.f kj37 t459 t463).bind fun t472 => (if t472 = true then ((cohousingref04_Same.f kj37 t467 l0).bind fun t473 => (cohousinglaw04_SpanLaws.j2 kj37 l0 l1 l2 t473 t468 t428 t447)) else (cohousinglaw04_SpanLaws.j2 kj37 l0 l1 l2 false t468 t428 t447))) else (cohousinglaw04_SpanLaws.j2 kj37 l0 l1 l2 false t468 t428 t447))) = some r := by rw [if_pos rfl] at H; exact H
                clear H
                have H := H1
                clear H1
                replace H := Option.bind_eq_some_iff.mp H
                obtain ⟨t471, A770, H⟩ := H
                replace H : (if t471 = true then ((cohousingref04_Same.f kj37 t459 t463).bind fun t472 => (if t472 = true then ((cohousingref04_Same.f kj37 t467 l0).bind fun t473 => (cohousinglaw04_SpanLaws.j2 kj37 l0 l1 l2 t473 t468 t428 t447)) else (cohousinglaw04_SpanLaws.j2 kj37 l0 l1 l2 false t468 t428 t447))) else (cohousinglaw04_SpanLaws.j2 kj37 l0 l1 l2 false t468 t428 t447)) = some r := H
                have A77 := Aside0.mk A770
                clear A770
                by_cases c78 : t471 = true
                · subst c78
                  have H1 : ((cohousingref04_Same.f kj37 t459 t463).bind fun t472 => (if t472 = true then ((cohousingref04_Same.f kj37 t467 l0).bind fun t473 => (cohousinglaw04_SpanLaws.j2 kj37 l0 l1 l2 t473 t468 t428 t447)) else (cohousinglaw04_SpanLaws.j2 kj37 l0 l1 l2 false t468 t428 t447))) = some r := by rw [if_pos rfl] at H; exact H
                  clear H
                  have H := H1
                  clear H1
                  replace H := Option.bind_eq_some_iff.mp H
                  obtain ⟨t472, A790, H⟩ := H
                  replace H : (if t472 = true then ((cohousingref04_Same.f kj37 t467 l0).bind fun t473 => (cohousinglaw04_SpanLaws.j2 kj37 l0 l1 l2 t473 t468 t428 t447)) else (cohousinglaw04_SpanLaws.j2 kj37 l0 l1 l2 false t468 t428 t447)) = some r := H
                  have A79 := Aside0.mk A790
                  clear A790
                  by_cases c80 : t472 = true
                  · subst c80
                    have H1 : ((cohousingref04_Same.f kj37 t467 l0).bind fun t473 => (cohousinglaw04_SpanLaws.j2 kj37 l0 l1 l2 t473 t468 t428 t447)) = some r := by rw [if_pos rfl] at H; exact H
                    clear H
                    have H := H1
                    clear H1
                    replace H := Option.bind_eq_some_iff.mp H
                    obtain ⟨t473, A810, H⟩ := H
                    replace H : (cohousinglaw04_SpanLaws.j2 kj37 l0 l1 l2 t473 t468 t428 t447) = some r := H
                    have A81 := Aside0.mk A810
                    clear A810
                    as_aux_lemma =>
                      have H' := Aside0.mk H
                      clear H
                      obtain ⟨Ao82, co82, eo82⟩ := Kd.R_slice HO454.out
                      subst eo82
                      go_wp2_with (first | (go_at_call 12; (with_reducible refine (cohousingref04_Same.calls kj37 _ _ t447 _ _ t451 true _ ?side1 ?side2 ?side3 ?side4 A77.out).mono ?_); (case side1 => repeat (first | exact (Kd.R_reads' HO450.out).2.2 | (with_reducible refine Kd.C_alloc ?_ _) | (with_reducible refine Kd.C_drewN ?_ _) | (with_reducible refine Kd.C_drew ?_))); (case side2 => exact (Kd.R_reads' HO450.out).2.1); (case side3 => repeat (first | exact (Kd.R_reads' HO454.out).2.2 | (with_reducible refine Kd.C_alloc ?_ _) | (with_reducible refine Kd.C_drewN ?_ _) | (with_reducible refine Kd.C_drew ?_))); (case side4 => exact (Kd.R_reads' HO454.out).2.1); rintro e w' ⟨rfl, ⟨nd, rfl⟩⟩; obtain ⟨Ao83, co83, eo83⟩ := Kd.R_slice HO462.out; subst eo83; obtain ⟨Ao84, co84, eo84⟩ := Kd.R_slice HO466.out; subst eo84) | (go_at_call 12; (with_reducible refine (cohousingref04_Same.calls kj37 _ _ t459 _ _ t463 true _ ?side1 ?side2 ?side3 ?side4 A79.out).mono ?_); (case side1 => repeat (first | exact (Kd.R_reads' HO462.out).2.2 | (with_reducible refine Kd.C_alloc ?_ _) | (with_reducible refine Kd.C_drewN ?_ _) | (with_reducible refine Kd.C_drew ?_))); (case side2 => exact (Kd.R_reads' HO462.out).2.1); (case side3 => repeat (first | exact (Kd.R_reads' HO466.out).2.2 | (with_reducible refine Kd.C_alloc ?_ _) | (with_reducible refine Kd.C_drewN ?_ _) | (with_reducible refine Kd.C_drew ?_))); (case side4 => exact (Kd.R_reads' HO466.out).2.1); rintro e w' ⟨rfl, ⟨nd, rfl⟩⟩; obtain ⟨Ao85, co85, eo85⟩ := Kd.R_slice HO470.out; subst eo85) | (go_at_call 12; (with_reducible refine (cohousingref04_Same.calls kj37 _ _ t467 _ _ l0 t473 _ ?side1 ?side2 ?side3 ?side4 A81.out).mono ?_); (case side1 => repeat (first | exact (Kd.R_reads' HO470.out).2.2 | (with_reducible refine Kd.C_alloc ?_ _) | (with_reducible refine Kd.C_drewN ?_ _) | (with_reducible refine Kd.C_drew ?_))); (case side2 => exact (Kd.R_reads' HO470.out).2.1); (case side3 => repeat (first | exact (Kd.C_below HR0.out (by repeat (first | (with_reducible first | exact HB.out | apply below_alloc | apply pw_below_drewN | apply below_drew1) | exact HB.out))) | (with_reducible refine Kd.C_alloc ?_ _) | (with_reducible refine Kd.C_drewN ?_ _) | (with_reducible refine Kd.C_drew ?_))); (case side4 => exact HC0.out); rintro e w' ⟨rfl, ⟨nd, rfl⟩⟩))
                      go_meet
                      case rel => exact ⟨_, (t473), (by first | rfl | (simp; done) | (simp [*]; done)), H', ⟨by have := HJ4.out; have := HJ37.out; first | omega | exact Nat.le_refl _⟩, ⟨by (with_reducible repeat (first | apply Kd.R_alloc | apply Kd.R_drewN | apply Kd.R_drew)); exact Kd.R_mono HO_11.out (fun _ hk => hk.1.1.1.1.1.2)⟩, ⟨by (with_reducible repeat (first | apply Kd.R_alloc | apply Kd.R_drewN | apply Kd.R_drew)); exact Kd.R_mono HO450.out (fun _ hk => hk.1.1.1.1.1.2)⟩, ⟨by repeat (first | (with_reducible first | exact HB.out | apply below_alloc | apply pw_below_drewN | apply below_drew1) | exact HB.out)⟩⟩
                  · replace c80 := Bool.eq_false_iff.mpr c80
                    subst c80
                    have H1 : (cohousinglaw04_SpanLaws.j2 kj37 l0 l1 l2 false t468 t428 t447) = some r := by rw [if_neg (show ¬ (false = true) by decide)] at H; exact H
                    clear H
                    have H := H1
                    clear H1
                    as_aux_lemma =>
                      have H' := Aside0.mk H
                      clear H
                      obtain ⟨Ao86, co86, eo86⟩ := Kd.R_slice HO454.out
                      subst eo86
                      go_wp2_with (first | (go_at_call 12; (with_reducible refine (cohousingref04_Same.calls kj37 _ _ t447 _ _ t451 true _ ?side1 ?side2 ?side3 ?side4 A77.out).mono ?_); (case side1 => repeat (first | exact (Kd.R_reads' HO450.out).2.2 | (with_reducible refine Kd.C_alloc ?_ _) | (with_reducible refine Kd.C_drewN ?_ _) | (with_reducible refine Kd.C_drew ?_))); (case side2 => exact (Kd.R_reads' HO450.out).2.1); (case side3 => repeat (first | exact (Kd.R_reads' HO454.out).2.2 | (with_reducible refine Kd.C_alloc ?_ _) | (with_reducible refine Kd.C_drewN ?_ _) | (with_reducible refine Kd.C_drew ?_))); (case side4 => exact (Kd.R_reads' HO454.out).2.1); rintro e w' ⟨rfl, ⟨nd, rfl⟩⟩; obtain ⟨Ao87, co87, eo87⟩ := Kd.R_slice HO462.out; subst eo87; obtain ⟨Ao88, co88, eo88⟩ := Kd.R_slice HO466.out; subst eo88) | (go_at_call 12; (with_reducible refine (cohousingref04_Same.calls kj37 _ _ t459 _ _ t463 false _ ?side1 ?side2 ?side3 ?side4 A79.out).mono ?_); (case side1 => repeat (first | exact (Kd.R_reads' HO462.out).2.2 | (with_reducible refine Kd.C_alloc ?_ _) | (with_reducible refine Kd.C_drewN ?_ _) | (with_reducible refine Kd.C_drew ?_))); (case side2 => exact (Kd.R_reads' HO462.out).2.1); (case side3 => repeat (first | exact (Kd.R_reads' HO466.out).2.2 | (with_reducible refine Kd.C_alloc ?_ _) | (with_reducible refine Kd.C_drewN ?_ _) | (with_reducible refine Kd.C_drew ?_))); (case side4 => exact (Kd.R_reads' HO466.out).2.1); rintro e w' ⟨rfl, ⟨nd, rfl⟩⟩))
                      go_meet
                      case rel => exact ⟨_, (false), (by first | rfl | (simp; done) | (simp [*]; done)), H', ⟨by have := HJ4.out; have := HJ37.out; first | omega | exact Nat.le_refl _⟩, ⟨by (with_reducible repeat (first | apply Kd.R_alloc | apply Kd.R_drewN | apply Kd.R_drew)); exact Kd.R_mono HO_11.out (fun _ hk => hk.1.1.1.1.1.2)⟩, ⟨by (with_reducible repeat (first | apply Kd.R_alloc | apply Kd.R_drewN | apply Kd.R_drew)); exact Kd.R_mono HO450.out (fun _ hk => hk.1.1.1.1.1.2)⟩, ⟨by repeat (first | (with_reducible first | exact HB.out | apply below_alloc | apply pw_below_drewN | apply below_drew1) | exact HB.out)⟩⟩
                · replace c78 := Bool.eq_false_iff.mpr c78
                  subst c78
                  have H1 : (cohousinglaw04_SpanLaws.j2 kj37 l0 l1 l2 false t468 t428 t447) = some r := by rw [if_neg (show ¬ (false = true) by decide)] at H; exact H
                  clear H
                  have H := H1
                  clear H1
                  as_aux_lemma =>
                    have H' := Aside0.mk H
                    clear H
                    obtain ⟨Ao89, co89, eo89⟩ := Kd.R_slice HO454.out
                    subst eo89
                    go_wp2_with (first | (go_at_call 12; (with_reducible refine (cohousingref04_Same.calls kj37 _ _ t447 _ _ t451 false _ ?side1 ?side2 ?side3 ?side4 A77.out).mono ?_); (case side1 => repeat (first | exact (Kd.R_reads' HO450.out).2.2 | (with_reducible refine Kd.C_alloc ?_ _) | (with_reducible refine Kd.C_drewN ?_ _) | (with_reducible refine Kd.C_drew ?_))); (case side2 => exact (Kd.R_reads' HO450.out).2.1); (case side3 => repeat (first | exact (Kd.R_reads' HO454.out).2.2 | (with_reducible refine Kd.C_alloc ?_ _) | (with_reducible refine Kd.C_drewN ?_ _) | (with_reducible refine Kd.C_drew ?_))); (case side4 => exact (Kd.R_reads' HO454.out).2.1); rintro e w' ⟨rfl, ⟨nd, rfl⟩⟩))
                    go_meet
                    case rel => exact ⟨_, (false), (by first | rfl | (simp; done) | (simp [*]; done)), H', ⟨by have := HJ4.out; have := HJ37.out; first | omega | exact Nat.le_refl _⟩, ⟨by (with_reducible repeat (first | apply Kd.R_alloc | apply Kd.R_drewN | apply Kd.R_drew)); exact Kd.R_mono HO_11.out (fun _ hk => hk.1.1.1.1.1.2)⟩, ⟨by (with_reducible repeat (first | apply Kd.R_alloc | apply Kd.R_drewN | apply Kd.R_drew)); exact Kd.R_mono HO450.out (fun _ hk => hk.1.1.1.1.1.2)⟩, ⟨by repeat (first | (with_reducible first | exact HB.out | apply below_alloc | apply pw_below_drewN | apply below_drew1) | exact HB.out)⟩⟩
              · replace c76 := Bool.eq_false_iff.mpr c76
                subst c76
                have H1 : (cohousinglaw04_SpanLaws.j2 kj37 l0 l1 l2 false t468 t428 t447) = some r := by rw [if_neg (show ¬ (false = true) by decide)] at H; exact H
                clear H
                have H := H1
                clear H1
                as_aux_lemma =>
                  have H' := Aside0.mk H
                  clear H
                  go_wp2
                  go_meet
                  case rel => exact ⟨_, (false), (by first | rfl | (simp; done) | (simp [*]; done)), H', ⟨by have := HJ4.out; have := HJ37.out; first | omega | exact Nat.le_refl _⟩, ⟨by (with_reducible repeat (first | apply Kd.R_alloc | apply Kd.R_drewN | apply Kd.R_drew)); exact Kd.R_mono HO_11.out (fun _ hk => hk.1.1.1.1.1.2)⟩, ⟨by (with_reducible repeat (first | apply Kd.R_alloc | apply Kd.R_drewN | apply Kd.R_drew)); exact Kd.R_mono HO450.out (fun _ hk => hk.1.1.1.1.1.2)⟩, ⟨by repeat (first | (with_reducible first | exact HB.out | apply below_alloc | apply pw_below_drewN | apply below_drew1) | exact HB.out)⟩⟩
            case rest =>
              clear HC67
              try clear c1
              try clear c2
              try clear p2
              try clear c3
              try clear c4
              try clear c5
              try clear c7
              try clear c8
              try clear c9
              try clear c10
              try clear c12
              try clear c13
              try clear c13b0
              try clear c13b1
              try clear c17
              try clear c17b0
              try clear c17b1
              try clear c30
              try clear c31
              try clear c47
              try clear c49
              try clear c51
              try clear c76
              try clear c78
              try clear c80
              try clear p2
              obtain ⟨kq, x7_66, rfl, HA, HJ66, HO_11, HO_15, HB⟩ := hcut
              cases kq with
              | zero => exact absurd HA.out (by simp [cohousinglaw04_SpanLaws.j2])
              | succ kj66 =>
                have H := HA.out
                clear HA
                simp only [cohousinglaw04_SpanLaws.j2] at H
                replace H := Option.bind_eq_some_iff.mp H
                obtain ⟨⟨t474, t475⟩, A900, H⟩ := H
                replace H : ((cohousinglaw04_done_Meet.f kj66 t475 l0 t428).bind fun bt478 => ((cohousinglaw04_done_Union.f kj66 bt478.2 t447 t474).bind fun bt482 => (if x7_66 = true then ((cohousingref04_Same.f kj66 bt478.1 bt482.1).bind fun t486 => (cohousinglaw04_SpanLaws.j3 kj66 l0 l1 l2 t486 bt482.2 t428)) else (cohousinglaw04_SpanLaws.j3 kj66 l0 l1 l2 false bt482.2 t428)))) = some r := H
                have A90 := Aside0.mk A900
                clear A900
                replace H := Option.bind_eq_some_iff.mp H
                obtain ⟨⟨t478, t479⟩, A910, H⟩ := H
                replace H : ((cohousinglaw04_done_Union.f kj66 t479 t447 t474).bind fun bt482 => (if x7_66 = true then ((cohousingref04_Same.f kj66 t478 bt482.1).bind fun t486 => (cohousinglaw04_SpanLaws.j3 kj66 l0 l1 l2 t486 bt482.2 t428)) else (cohousinglaw04_SpanLaws.j3 kj66 l0 l1 l2 false bt482.2 t428))) = some r := H
                have A91 := Aside0.mk A910
                clear A910
                replace H := Option.bind_eq_some_iff.mp H
                obtain ⟨⟨t482, t483⟩, A920, H⟩ := H
                replace H : (if x7_66 = true then ((cohousingref04_Same.f kj66 t478 t482).bind fun t486 => (cohousinglaw04_SpanLaws.j3 kj66 l0 l1 l2 t486 t483 t428)) else (cohousinglaw04_SpanLaws.j3 kj66 l0 l1 l2 false t483 t428)) = some r := H
                have A92 := Aside0.mk A920
                clear A920
                have HC93 := Aside0.mk H
                clear H
                go_upto_region 21 with (first | ((with_reducible refine gate_callee (f := 14) rfl ?_); refine goesL_ (some 168) rfl rfl Try.func14 (by kernel_rfl) rfl #[.bool t468, .func (.func 16) #[] #[], .slice A0 l0.length c0, .slice A2 l2.length c2] rfl (by (try simp only [List.map_toArray, List.map_cons, List.map_nil]); first | done | rfl | (simp only [List.length_drop, List.length_take]; rfl)) ?_; (with_reducible refine (cohousinglaw04_done_Meet.calls kj66 t468 _ _ l0 _ _ l2 t474 t475 _ ?side1 ?side2 ?side3 ?side4 A90.out).mono ?_); (case side1 => repeat (first | exact (Kd.C_below HR0.out HB.out) | (with_reducible refine Kd.C_alloc ?_ _) | (with_reducible refine Kd.C_drewN ?_ _) | (with_reducible refine Kd.C_drew ?_))); (case side2 => exact HC0.out); (case side3 => repeat (first | exact (Kd.C_below HR2.out HB.out) | (with_reducible refine Kd.C_alloc ?_ _) | (with_reducible refine Kd.C_drewN ?_ _) | (with_reducible refine Kd.C_drew ?_))); (case side4 => exact HC2.out); rintro e w94 ⟨v476, rfl, ho0, hb⟩; refine ⟨_, rfl, ?_⟩; have n0_ := Aside0.mk (Kd.R_elder' (by (with_reducible repeat (first | apply Kd.R_alloc | apply Kd.R_drewN | apply Kd.R_drew)); exact HO_11.out) (Kd.R_base ho0) hb); have n1_ := Aside0.mk (Kd.R_elder' (by (with_reducible repeat (first | apply Kd.R_alloc | apply Kd.R_drewN | apply Kd.R_drew)); exact HO_15.out) (Kd.R_base ho0) hb); have n2_ := Aside0.mk (Kd.R_lower (Kd.R_new' (Kd.R_new' ho0 (Kd.R_lt (by (with_reducible repeat (first | apply Kd.R_alloc | apply Kd.R_drewN | apply Kd.R_drew)); exact HO_11.out))) (Kd.R_lt (by (with_reducible repeat (first | apply Kd.R_alloc | apply Kd.R_drewN | apply Kd.R_drew)); exact HO_15.out))) (below_size (by repeat (first | (with_reducible first | exact HB.out | apply below_alloc | apply pw_below_drewN | apply below_drew1) | exact HB.out)))); have n3_ := Aside0.mk (below_step (by repeat (first | (with_reducible first | exact HB.out | apply below_alloc | apply pw_below_drewN | apply below_drew1) | exact HB.out)) hb); clear HO_11; clear HO_15; clear HB; have HO_11 := n0_; have HO_15 := n1_; have HO477 := n2_; have HB := n3_; clear n0_ n1_ n2_ n3_; (try clear hb); (try clear hb2); (try clear hk); (try clear hi); (try clear ho0)) | ((with_reducible refine gate_callee (f := 14) rfl ?_); refine goesL_ (some 175) rfl rfl Try.func14 (by kernel_rfl) rfl #[.bool t475, .func (.func 16) #[] #[], .slice A0 l0.length c0, .slice Ao44 t428.length co44] rfl (by (try simp only [List.map_toArray, List.map_cons, List.map_nil]); first | done | rfl | (simp only [List.length_drop, List.length_take]; rfl)) ?_; (with_reducible refine (cohousinglaw04_done_Meet.calls kj66 t475 _ _ l0 _ _ t428 t478 t479 _ ?side1 ?side2 ?side3 ?side4 A91.out).mono ?_); (case side1 => repeat (first | exact (Kd.C_below HR0.out HB.out) | (with_reducible refine Kd.C_alloc ?_ _) | (with_reducible refine Kd.C_drewN ?_ _) | (with_reducible refine Kd.C_drew ?_))); (case side2 => exact HC0.out); (case side3 => repeat (first | exact (Kd.R_reads' HO_11.out).2.2 | (with_reducible refine Kd.C_alloc ?_ _) | (with_reducible refine Kd.C_drewN ?_ _) | (with_reducible refine Kd.C_drew ?_))); (case side4 => exact (Kd.R_reads' HO_11.out).2.1); rintro e w95 ⟨v480, rfl, ho0, hb⟩; refine ⟨_, rfl, ?_⟩; have n0_ := Aside0.mk (Kd.R_elder' (by (with_reducible repeat (first | apply Kd.R_alloc | apply Kd.R_drewN | apply Kd.R_drew)); exact HO_11.out) (Kd.R_base ho0) hb); have n1_ := Aside0.mk (Kd.R_elder' (by (with_reducible repeat (first | apply Kd.R_alloc | apply Kd.R_drewN | apply Kd.R_drew)); exact HO_15.out) (Kd.R_base ho0) hb); have n2_ := Aside0.mk (Kd.R_elder' (by (with_reducible repeat (first | apply Kd.R_alloc | apply Kd.R_drewN | apply Kd.R_drew)); exact HO477.out) (Kd.R_base ho0) hb); have n3_ := Aside0.mk (Kd.R_lower (Kd.R_new' (Kd.R_new' (Kd.R_new' ho0 (Kd.R_lt (by (with_reducible repeat (first | apply Kd.R_alloc | apply Kd.R_drewN | apply Kd.R_drew)); exact HO_11.out))) (Kd.R_lt (by (with_reducible repeat (first | apply Kd.R_alloc | apply Kd.R_drewN | apply Kd.R_drew)); exact HO_15.out))) (Kd.R_lt (by (with_reducible repeat (first | apply Kd.R_alloc | apply Kd.R_drewN | apply Kd.R_drew)); exact HO477.out))) (below_size (by repeat (first | (with_reducible first | exact HB.out | apply below_alloc | apply pw_below_drewN | apply below_drew1) | exact HB.out)))); have n4_ := Aside0.mk (below_step (by repeat (first | (with_reducible first | exact HB.out | apply below_alloc | apply pw_below_drewN | apply below_drew1) | exact HB.out)) hb); clear HO_11; clear HO_15; clear HO477; clear HB; have HO_11 := n0_; have HO_15 := n1_; have HO477 := n2_; have HO481 := n3_; have HB := n4_; clear n0_ n1_ n2_ n3_ n4_; (try clear hb); (try clear hb2); (try clear hk); (try clear hi); (try clear ho0); obtain ⟨Ao96, co96, eo96⟩ := Kd.R_slice HO477.out; subst eo96) | ((with_reducible refine gate_callee (f := 14) rfl ?_); refine goesL_ (some 182) rfl rfl Try.func14 (by kernel_rfl) rfl #[.bool t479, .func (.func 15) #[] #[], .slice Ao71 t447.length co71, .slice Ao96 t474.length co96] rfl (by (try simp only [List.map_toArray, List.map_cons, List.map_nil]); first | done | rfl | (simp only [List.length_drop, List.length_take]; rfl)) ?_; (with_reducible refine (cohousinglaw04_done_Union.calls kj66 t479 _ _ t447 _ _ t474 t482 t483 _ ?side1 ?side2 ?side3 ?side4 A92.out).mono ?_); (case side1 => repeat (first | exact (Kd.R_reads' HO_15.out).2.2 | (with_reducible refine Kd.C_alloc ?_ _) | (with_reducible refine Kd.C_drewN ?_ _) | (with_reducible refine Kd.C_drew ?_))); (case side2 => exact (Kd.R_reads' HO_15.out).2.1); (case side3 => repeat (first | exact (Kd.R_reads' HO477.out).2.2 | (with_reducible refine Kd.C_alloc ?_ _) | (with_reducible refine Kd.C_drewN ?_ _) | (with_reducible refine Kd.C_drew ?_))); (case side4 => exact (Kd.R_reads' HO477.out).2.1); rintro e w97 ⟨v484, rfl, ho0, hb⟩; refine ⟨_, rfl, ?_⟩; have n0_ := Aside0.mk (Kd.R_elder' (by (with_reducible repeat (first | apply Kd.R_alloc | apply Kd.R_drewN | apply Kd.R_drew)); exact HO_11.out) (Kd.R_base ho0) hb); have n1_ := Aside0.mk (Kd.R_elder' (by (with_reducible repeat (first | apply Kd.R_alloc | apply Kd.R_drewN | apply Kd.R_drew)); exact HO_15.out) (Kd.R_base ho0) hb); have n2_ := Aside0.mk (Kd.R_elder' (by (with_reducible repeat (first | apply Kd.R_alloc | apply Kd.R_drewN | apply Kd.R_drew)); exact HO477.out) (Kd.R_base ho0) hb); have n3_ := Aside0.mk (Kd.R_elder' (by (with_reducible repeat (first | apply Kd.R_alloc | apply Kd.R_drewN | apply Kd.R_drew)); exact HO481.out) (Kd.R_base ho0) hb); have n4_ := Aside0.mk (Kd.R_lower (Kd.R_new' (Kd.R_new' (Kd.R_new' (Kd.R_new' ho0 (Kd.R_lt (by (with_reducible repeat (first | apply Kd.R_alloc | apply Kd.R_drewN | apply Kd.R_drew)); exact HO_11.out))) (Kd.R_lt (by (with_reducible repeat (first | apply Kd.R_alloc | apply Kd.R_drewN | apply Kd.R_drew)); exact HO_15.out))) (Kd.R_lt (by (with_reducible repeat (first | apply Kd.R_alloc | apply Kd.R_drewN | apply Kd.R_drew)); exact HO477.out))) (Kd.R_lt (by (with_reducible repeat (first | apply Kd.R_alloc | apply Kd.R_drewN | apply Kd.R_drew)); exact HO481.out))) (below_size (by repeat (first | (with_reducible first | exact HB.out | apply below_alloc | apply pw_below_drewN | apply below_drew1) | exact HB.out)))); have n5_ := Aside0.mk (below_step (by repeat (first | (with_reducible first | exact HB.out | apply below_alloc | apply pw_below_drewN | apply below_drew1) | exact HB.out)) hb); clear HO_11; clear HO_15; clear HO477; clear HO481; clear HB; have HO_11 := n0_; have HO_15 := n1_; have HO477 := n2_; have HO481 := n3_; have HO485 := n4_; have HB := n5_; clear n0_ n1_ n2_ n3_ n4_ n5_; (try clear hb); (try clear hb2); (try clear hk); (try clear hi); (try clear ho0)))
                (try simp only [Act.put, List.setIfInBounds_toArray, List.set_cons_zero, List.set_cons_succ])
                go_cut [7] (fun v7 wc => ∃ (kq : Nat) (x7_92 : Bool), v7 = .bool x7_92 ∧ Aside0 (cohousinglaw04_SpanLaws.j3 kq l0 l1 l2 x7_92 t483 t428 = some r) ∧ Aside0 (kq ≤ kj66) ∧ Aside0 (Kd.R k30 30 wc w.heap.size (fun _ => True) (.slice Ao44 t428.length co44) t428) ∧ Aside0 (Below w.heap.size w wc))
                case first =>
                  have H := HC93.out
                  clear HC93
                  by_cases c98 : x7_66 = true
                  · subst c98
                    have H1 : ((cohousingref04_Same.f kj66 t478 t482).bind fun t486 => (cohousinglaw04_SpanLaws.j3 kj66 l0 l1 l2 t486 t483 t428)) = some r := by rw [if_pos rfl] at H; exact H
                    clear H
                    have H := H1
                    clear H1
                    replace H := Option.bind_eq_some_iff.mp H
                    obtain ⟨t486, A990, H⟩ := H
                    replace H : (cohousinglaw04_SpanLaws.j3 kj66 l0 l1 l2 t486 t483 t428) = some r := H
                    have A99 := Aside0.mk A990
                    clear A990
                    as_aux_lemma =>
                      have H' := Aside0.mk H
                      clear H
                      obtain ⟨Ao100, co100, eo100⟩ := Kd.R_slice HO481.out
                      subst eo100
                      obtain ⟨Ao101, co101, eo101⟩ := Kd.R_slice HO485.out
                      subst eo101
                      go_wp2_with (first | (go_at_call 12; (with_reducible refine (cohousingref04_Same.calls kj66 _ _ t478 _ _ t482 t486 _ ?side1 ?side2 ?side3 ?side4 A99.out).mono ?_); (case side1 => repeat (first | exact (Kd.R_reads' HO481.out).2.2 | (with_reducible refine Kd.C_alloc ?_ _) | (with_reducible refine Kd.C_drewN ?_ _) | (with_reducible refine Kd.C_drew ?_))); (case side2 => exact (Kd.R_reads' HO481.out).2.1); (case side3 => repeat (first | exact (Kd.R_reads' HO485.out).2.2 | (with_reducible refine Kd.C_alloc ?_ _) | (with_reducible refine Kd.C_drewN ?_ _) | (with_reducible refine Kd.C_drew ?_))); (case side4 => exact (Kd.R_reads' HO485.out).2.1); rintro e w' ⟨rfl, ⟨nd, rfl⟩⟩))
                      go_meet
                      case rel => exact ⟨_, (t486), (by first | rfl | (simp; done) | (simp [*]; done)), H', ⟨by have := HJ4.out; have := HJ37.out; have := HJ66.out; first | omega | exact Nat.le_refl _⟩, ⟨by (with_reducible repeat (first | apply Kd.R_alloc | apply Kd.R_drewN | apply Kd.R_drew)); exact Kd.R_mono HO_11.out (fun _ hk => trivial)⟩, ⟨by repeat (first | (with_reducible first | exact HB.out | apply below_alloc | apply pw_below_drewN | apply below_drew1) | exact HB.out)⟩⟩
                  · replace c98 := Bool.eq_false_iff.mpr c98
                    subst c98
                    have H1 : (cohousinglaw04_SpanLaws.j3 kj66 l0 l1 l2 false t483 t428) = some r := by rw [if_neg (show ¬ (false = true) by decide)] at H; exact H
                    clear H
                    have H := H1
                    clear H1
                    as_aux_lemma =>
                      have H' := Aside0.mk H
                      clear H
                      go_wp2
                      go_meet
                      case rel => exact ⟨_, (false), (by first | rfl | (simp; done) | (simp [*]; done)), H', ⟨by have := HJ4.out; have := HJ37.out; have := HJ66.out; first | omega | exact Nat.le_refl _⟩, ⟨by (with_reducible repeat (first | apply Kd.R_alloc | apply Kd.R_drewN | apply Kd.R_drew)); exact Kd.R_mono HO_11.out (fun _ hk => trivial)⟩, ⟨by repeat (first | (with_reducible first | exact HB.out | apply below_alloc | apply pw_below_drewN | apply below_drew1) | exact HB.out)⟩⟩
                case rest =>
                  clear HC93
                  try clear c1
                  try clear c2
                  try clear p2
                  try clear c3
                  try clear c4
                  try clear c5
                  try clear c7
                  try clear c8
                  try clear c9
                  try clear c10
                  try clear c12
                  try clear c13
                  try clear c13b0
                  try clear c13b1
                  try clear c17
                  try clear c17b0
                  try clear c17b1
                  try clear c30
                  try clear c31
                  try clear c47
                  try clear c49
                  try clear c51
                  try clear c76
                  try clear c78
                  try clear c80
                  try clear c98
                  try clear p2
                  obtain ⟨kq, x7_92, rfl, HA, HJ92, HO_11, HB⟩ := hcut
                  cases kq with
                  | zero => exact absurd HA.out (by simp [cohousinglaw04_SpanLaws.j3])
                  | succ kj92 =>
                    have H := HA.out
                    clear HA
                    simp only [cohousinglaw04_SpanLaws.j3] at H
                    replace H := Option.bind_eq_some_iff.mp H
                    obtain ⟨⟨t487, t488⟩, A1020, H⟩ := H
                    replace H : ((cohousinglaw04_done_Without.f kj92 t488 l0 l1).bind fun bt491 => ((cohousinglaw04_done_Without.f kj92 bt491.2 bt491.1 l2).bind fun bt495 => (if x7_92 = true then (if bt495.2 = true then ((cohousingref04_Same.f kj92 t487 bt495.1).bind fun t499 => (if t499 = true then (some true) else (none))) else (none)) else (none)))) = some r := H
                    have A102 := Aside0.mk A1020
                    clear A1020
                    replace H := Option.bind_eq_some_iff.mp H
                    obtain ⟨⟨t491, t492⟩, A1030, H⟩ := H
                    replace H : ((cohousinglaw04_done_Without.f kj92 t492 t491 l2).bind fun bt495 => (if x7_92 = true then (if bt495.2 = true then ((cohousingref04_Same.f kj92 t487 bt495.1).bind fun t499 => (if t499 = true then (some true) else (none))) else (none)) else (none))) = some r := H
                    have A103 := Aside0.mk A1030
                    clear A1030
                    replace H := Option.bind_eq_some_iff.mp H
                    obtain ⟨⟨t495, t496⟩, A1040, H⟩ := H
                    replace H : (if x7_92 = true then (if t496 = true then ((cohousingref04_Same.f kj92 t487 t495).bind fun t499 => (if t499 = true then (some true) else (none))) else (none)) else (none)) = some r := H
                    have A104 := Aside0.mk A1040
                    clear A1040
                    by_cases c105 : x7_92 = true
                    · subst c105
                      have H1 : (if t496 = true then ((cohousingref04_Same.f kj92 t487 t495).bind fun t499 => (if t499 = true then (some true) else (none))) else (none)) = some r := by rw [if_pos rfl] at H; exact H
                      clear H
                      have H := H1
                      clear H1
                      by_cases c106 : t496 = true
                      · subst c106
                        have H1 : ((cohousingref04_Same.f kj92 t487 t495).bind fun t499 => (if t499 = true then (some true) else (none))) = some r := by rw [if_pos rfl] at H; exact H
                        clear H
                        have H := H1
                        clear H1
                        replace H := Option.bind_eq_some_iff.mp H
                        obtain ⟨t499, A1070, H⟩ := H
                        replace H : (if t499 = true then (some true) else (none)) = some r := H
                        have A107 := Aside0.mk A1070
                        clear A1070
                        by_cases c108 : t499 = true
                        · subst c108
                          have H1 : (some true) = some r := by rw [if_pos rfl] at H; exact H
                          clear H
                          have H := H1
                          clear H1
                          as_aux_lemma =>
                            obtain rfl := Option.some.inj H
                            go_wp2_with (first | ((with_reducible refine gate_callee (f := 14) rfl ?_); refine goesL_ (some 195) rfl rfl Try.func14 (by kernel_rfl) rfl #[.bool t483, .func (.func 13) #[] #[], .slice A0 l0.length c0, .slice Ao44 t428.length co44] rfl (by (try simp only [List.map_toArray, List.map_cons, List.map_nil]); first | done | rfl | (simp only [List.length_drop, List.length_take]; rfl)) ?_; (with_reducible refine (cohousinglaw04_done_Without.calls kj92 t483 _ _ l0 _ _ t428 t487 t488 _ ?side1 ?side2 ?side3 ?side4 A102.out).mono ?_); (case side1 => repeat (first | exact (Kd.C_below HR0.out HB.out) | (with_reducible refine Kd.C_alloc ?_ _) | (with_reducible refine Kd.C_drewN ?_ _) | (with_reducible refine Kd.C_drew ?_))); (case side2 => exact HC0.out); (case side3 => repeat (first | exact (Kd.R_reads' HO_11.out).2.2 | (with_reducible refine Kd.C_alloc ?_ _) | (with_reducible refine Kd.C_drewN ?_ _) | (with_reducible refine Kd.C_drew ?_))); (case side4 => exact (Kd.R_reads' HO_11.out).2.1); rintro e w109 ⟨v489, rfl, ho0, hb⟩; refine ⟨_, rfl, ?_⟩; have n0_ := Aside0.mk (Kd.R_elder' (by (with_reducible repeat (first | apply Kd.R_alloc | apply Kd.R_drewN | apply Kd.R_drew)); exact HO_11.out) (Kd.R_base ho0) hb); have n1_ := Aside0.mk (Kd.R_lower (Kd.R_new' ho0 (Kd.R_lt (by (with_reducible repeat (first | apply Kd.R_alloc | apply Kd.R_drewN | apply Kd.R_drew)); exact HO_11.out))) (below_size (by repeat (first | (with_reducible first | exact HB.out | apply below_alloc | apply pw_below_drewN | apply below_drew1) | exact HB.out)))); have n2_ := Aside0.mk (below_step (by repeat (first | (with_reducible first | exact HB.out | apply below_alloc | apply pw_below_drewN | apply below_drew1) | exact HB.out)) hb); clear HO_11; clear HB; have HO_11 := n0_; have HO490 := n1_; have HB := n2_; clear n0_ n1_ n2_; (try clear hb); (try clear hb2); (try clear hk); (try clear hi); (try clear ho0)) | ((with_reducible refine gate_callee (f := 14) rfl ?_); refine goesL_ (some 202) rfl rfl Try.func14 (by kernel_rfl) rfl #[.bool t488, .func (.func 13) #[] #[], .slice A0 l0.length c0, .slice A1 l1.length c1] rfl (by (try simp only [List.map_toArray, List.map_cons, List.map_nil]); first | done | rfl | (simp only [List.length_drop, List.length_take]; rfl)) ?_; (with_reducible refine (cohousinglaw04_done_Without.calls kj92 t488 _ _ l0 _ _ l1 t491 t492 _ ?side1 ?side2 ?side3 ?side4 A103.out).mono ?_); (case side1 => repeat (first | exact (Kd.C_below HR0.out HB.out) | (with_reducible refine Kd.C_alloc ?_ _) | (with_reducible refine Kd.C_drewN ?_ _) | (with_reducible refine Kd.C_drew ?_))); (case side2 => exact HC0.out); (case side3 => repeat (first | exact (Kd.C_below HR1.out HB.out) | (with_reducible refine Kd.C_alloc ?_ _) | (with_reducible refine Kd.C_drewN ?_ _) | (with_reducible refine Kd.C_drew ?_))); (case side4 => exact HC1.out); rintro e w110 ⟨v493, rfl, ho0, hb⟩; refine ⟨_, rfl, ?_⟩; have n0_ := Aside0.mk (Kd.R_elder' (by (with_reducible repeat (first | apply Kd.R_alloc | apply Kd.R_drewN | apply Kd.R_drew)); exact HO_11.out) (Kd.R_base ho0) hb); have n1_ := Aside0.mk (Kd.R_elder' (by (with_reducible repeat (first | apply Kd.R_alloc | apply Kd.R_drewN | apply Kd.R_drew)); exact HO490.out) (Kd.R_base ho0) hb); have n2_ := Aside0.mk (Kd.R_lower (Kd.R_new' (Kd.R_new' ho0 (Kd.R_lt (by (with_reducible repeat (first | apply Kd.R_alloc | apply Kd.R_drewN | apply Kd.R_drew)); exact HO_11.out))) (Kd.R_lt (by (with_reducible repeat (first | apply Kd.R_alloc | apply Kd.R_drewN | apply Kd.R_drew)); exact HO490.out))) (below_size (by repeat (first | (with_reducible first | exact HB.out | apply below_alloc | apply pw_below_drewN | apply below_drew1) | exact HB.out)))); have n3_ := Aside0.mk (below_step (by repeat (first | (with_reducible first | exact HB.out | apply below_alloc | apply pw_below_drewN | apply below_drew1) | exact HB.out)) hb); clear HO_11; clear HO490; clear HB; have HO_11 := n0_; have HO490 := n1_; have HO494 := n2_; have HB := n3_; clear n0_ n1_ n2_ n3_; (try clear hb); (try clear hb2); (try clear hk); (try clear hi); (try clear ho0); obtain ⟨Ao111, co111, eo111⟩ := Kd.R_slice HO494.out; subst eo111) | ((with_reducible refine gate_callee (f := 14) rfl ?_); refine goesL_ (some 209) rfl rfl Try.func14 (by kernel_rfl) rfl #[.bool t492, .func (.func 13) #[] #[], .slice Ao111 t491.length co111, .slice A2 l2.length c2] rfl (by (try simp only [List.map_toArray, List.map_cons, List.map_nil]); first | done | rfl | (simp only [List.length_drop, List.length_take]; rfl)) ?_; (with_reducible refine (cohousinglaw04_done_Without.calls kj92 t492 _ _ t491 _ _ l2 t495 true _ ?side1 ?side2 ?side3 ?side4 A104.out).mono ?_); (case side1 => repeat (first | exact (Kd.R_reads' HO494.out).2.2 | (with_reducible refine Kd.C_alloc ?_ _) | (with_reducible refine Kd.C_drewN ?_ _) | (with_reducible refine Kd.C_drew ?_))); (case side2 => exact (Kd.R_reads' HO494.out).2.1); (case side3 => repeat (first | exact (Kd.C_below HR2.out HB.out) | (with_reducible refine Kd.C_alloc ?_ _) | (with_reducible refine Kd.C_drewN ?_ _) | (with_reducible refine Kd.C_drew ?_))); (case side4 => exact HC2.out); rintro e w112 ⟨v497, rfl, ho0, hb⟩; refine ⟨_, rfl, ?_⟩; have n0_ := Aside0.mk (Kd.R_elder' (by (with_reducible repeat (first | apply Kd.R_alloc | apply Kd.R_drewN | apply Kd.R_drew)); exact HO_11.out) (Kd.R_base ho0) hb); have n1_ := Aside0.mk (Kd.R_elder' (by (with_reducible repeat (first | apply Kd.R_alloc | apply Kd.R_drewN | apply Kd.R_drew)); exact HO490.out) (Kd.R_base ho0) hb); have n2_ := Aside0.mk (Kd.R_elder' (by (with_reducible repeat (first | apply Kd.R_alloc | apply Kd.R_drewN | apply Kd.R_drew)); exact HO494.out) (Kd.R_base ho0) hb); have n3_ := Aside0.mk (Kd.R_lower (Kd.R_new' (Kd.R_new' (Kd.R_new' ho0 (Kd.R_lt (by (with_reducible repeat (first | apply Kd.R_alloc | apply Kd.R_drewN | apply Kd.R_drew)); exact HO_11.out))) (Kd.R_lt (by (with_reducible repeat (first | apply Kd.R_alloc | apply Kd.R_drewN | apply Kd.R_drew)); exact HO490.out))) (Kd.R_lt (by (with_reducible repeat (first | apply Kd.R_alloc | apply Kd.R_drewN | apply Kd.R_drew)); exact HO494.out))) (below_size (by repeat (first | (with_reducible first | exact HB.out | apply below_alloc | apply pw_below_drewN | apply below_drew1) | exact HB.out)))); have n4_ := Aside0.mk (below_step (by repeat (first | (with_reducible first | exact HB.out | apply below_alloc | apply pw_below_drewN | apply below_drew1) | exact HB.out)) hb); clear HO_11; clear HO490; clear HO494; clear HB; have HO_11 := n0_; have HO490 := n1_; have HO494 := n2_; have HO498 := n3_; have HB := n4_; clear n0_ n1_ n2_ n3_ n4_; (try clear hb); (try clear hb2); (try clear hk); (try clear hi); (try clear ho0); obtain ⟨Ao113, co113, eo113⟩ := Kd.R_slice HO490.out; subst eo113; obtain ⟨Ao114, co114, eo114⟩ := Kd.R_slice HO498.out; subst eo114) | (go_at_call 12; (with_reducible refine (cohousingref04_Same.calls kj92 _ _ t487 _ _ t495 true _ ?side1 ?side2 ?side3 ?side4 A107.out).mono ?_); (case side1 => repeat (first | exact (Kd.R_reads' HO490.out).2.2 | (with_reducible refine Kd.C_alloc ?_ _) | (with_reducible refine Kd.C_drewN ?_ _) | (with_reducible refine Kd.C_drew ?_))); (case side2 => exact (Kd.R_reads' HO490.out).2.1); (case side3 => repeat (first | exact (Kd.R_reads' HO498.out).2.2 | (with_reducible refine Kd.C_alloc ?_ _) | (with_reducible refine Kd.C_drewN ?_ _) | (with_reducible refine Kd.C_drew ?_))); (case side4 => exact (Kd.R_reads' HO498.out).2.1); rintro e w' ⟨rfl, ⟨nd, rfl⟩⟩))
                            go_ret
                            exact ⟨by first | rfl | (simp [errW_none, errW_some] <;> rfl) | (simp [*, errW_none, errW_some] <;> rfl), by repeat (first | (with_reducible first | exact HB.out | apply below_alloc | apply pw_below_drewN | apply below_drew1) | exact HB.out)⟩
                        · replace c108 := Bool.eq_false_iff.mpr c108
                          subst c108
                          have H1 : (none) = some r := by rw [if_neg (show ¬ (false = true) by decide)] at H; exact H
                          clear H
                          have H := H1
                          clear H1
                          exact absurd H (by simp)
                      · replace c106 := Bool.eq_false_iff.mpr c106
                        subst c106
                        have H1 : (none) = some r := by rw [if_neg (show ¬ (false = true) by decide)] at H; exact H
                        clear H
                        have H := H1
                        clear H1
                        exact absurd H (by simp)
                    · replace c105 := Bool.eq_false_iff.mpr c105
                      subst c105
                      have H1 : (none) = some r := by rw [if_neg (show ¬ (false = true) by decide)] at H; exact H
                      clear H
                      have H := H1
                      clear H1
                      exact absurd H (by simp)

end Go.Proofs.Ytbfgblfhonpgaaa.X
