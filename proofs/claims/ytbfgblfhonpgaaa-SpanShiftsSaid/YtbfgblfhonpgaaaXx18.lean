-- Written by a program of mine (wip/tools/xprint.py) over the kit's print.py: printed functions and hand-proved ones side by side.
import Derived.Test.YtbfgblfhonpgaaaXx0
import Derived.Test.YtbfgblfhonpgaaaXx3
import Derived.Test.YtbfgblfhonpgaaaXx7
import Derived.Test.YtbfgblfhonpgaaaXx8
import Derived.Test.YtbfgblfhonpgaaaXx16
import Derived.Test.YtbfgblfhonpgaaaXx17
namespace Go.Proofs.Ytbfgblfhonpgaaa.X
open Go.RowKit Go.Proofs.YtbfgblfhonpgaaaW.PrintWords Go.Proofs.YtbfgblfhonpgaaaW.PrintLast Go.Proofs.YtbfgblfhonpgaaaW.PrintMore
attribute [local go_sem] max2_int min2_int max_two min_two max_three min_three max_four min_four   -- for this text's walks alone
set_option linter.unusedVariables false
set_option linter.unusedSimpArgs false

/-! ### cohousinglaw04_SpanShifts: function 6 -/
-- by hand: cohousing/cohousinglaw04.SpanShifts
section
open Go.RowKit Go.Proofs.YtbfgblfhonpgaaaW.PrintWords Go.Proofs.YtbfgblfhonpgaaaW.PrintLast Go.Proofs.YtbfgblfhonpgaaaW.PrintMore
open Go.Sort (grow alloc_eq_grow grow_grow)
set_option maxHeartbeats 8000000 in
set_option maxRecDepth 100000 in
theorem shifts_bad0 (k : Nat) (A0 A1 : Option Addr) (c0 c1 : Nat) (l0 l1 : List S30) (a2 : Int) (w : World) (hr0 : Kd.C k30 w A0 l0.length l0) (hc0 : l0.length ≤ c0) (hr1 : Kd.C k30 w A1 l1.length l1) (hc1 : l1.length ≤ c1) (hh : cohousinglaw04_head.f k = some true) (hv0 : span_Valid.f k l0 = some false) :
    Calls Try.prog 6 #[.slice A0 l0.length c0, .slice A1 l1.length c1, .int .i64 a2] w fun e w' => e = .returned (.bool true) ∧ Below w.heap.size w w' := by
  have HR0 := Lib.hid hr0
  have HR1 := Lib.hid hr1
  have HC0 := Lib.hid hc0
  have HC1 := Lib.hid hc1
  have HH := Lib.hid hh
  have HV0 := Lib.hid hv0
  have HB := Lib.hid (Below.refl w.heap.size w)
  clear hr0 hr1 hc0 hc1 hh hv0
  go_enter Try.func6, Try.ntmps6
  go_wp2_with (first
    | (go_at_call 9; with_reducible refine (cohousinglaw04_head.calls k true _ HH.out).mono ?_; rintro e w1 ⟨rfl, hb⟩; have hb2 : Below w.heap.size w _ := below_step (by with_reducible repeat first | exact HB.out | apply below_alloc | apply pw_below_drewN | apply below_drew1) hb; clear HB; have HB := Lib.hid hb2; clear hb2; clear hb)
    | (go_at_call 10; with_reducible refine (span_Valid.calls k A0 c0 l0 false _ ?s1 HC0.out HV0.out).mono ?_; (case s1 => with_reducible repeat first | exact (Kd.C_below HR0.out HB.out) | refine Kd.C_alloc ?_ _ | refine Kd.C_drewN ?_ _ | refine Kd.C_drew ?_); rintro e w1 ⟨rfl, hb⟩; have hb2 : Below w.heap.size w _ := below_step (by with_reducible repeat first | exact HB.out | apply below_alloc | apply pw_below_drewN | apply below_drew1) hb; clear HB; have HB := Lib.hid hb2; clear hb2; clear hb))
  go_ret
  exact ⟨rfl, by with_reducible repeat first | exact HB.out | apply below_alloc | apply pw_below_drewN | apply below_drew1⟩
set_option maxHeartbeats 8000000 in
set_option maxRecDepth 100000 in
theorem shifts_bad1 (k : Nat) (A0 A1 : Option Addr) (c0 c1 : Nat) (l0 l1 : List S30) (a2 : Int) (w : World) (hr0 : Kd.C k30 w A0 l0.length l0) (hc0 : l0.length ≤ c0) (hr1 : Kd.C k30 w A1 l1.length l1) (hc1 : l1.length ≤ c1) (hh : cohousinglaw04_head.f k = some true) (hv0 : span_Valid.f k l0 = some true) (hv1 : span_Valid.f k l1 = some false) :
    Calls Try.prog 6 #[.slice A0 l0.length c0, .slice A1 l1.length c1, .int .i64 a2] w fun e w' => e = .returned (.bool true) ∧ Below w.heap.size w w' := by
  have HR0 := Lib.hid hr0
  have HR1 := Lib.hid hr1
  have HC0 := Lib.hid hc0
  have HC1 := Lib.hid hc1
  have HH := Lib.hid hh
  have HV0 := Lib.hid hv0
  have HV1 := Lib.hid hv1
  have HB := Lib.hid (Below.refl w.heap.size w)
  clear hr0 hr1 hc0 hc1 hh hv0 hv1
  go_enter Try.func6, Try.ntmps6
  go_wp2_with (first
    | (go_at_call 9; with_reducible refine (cohousinglaw04_head.calls k true _ HH.out).mono ?_; rintro e w1 ⟨rfl, hb⟩; have hb2 : Below w.heap.size w _ := below_step (by with_reducible repeat first | exact HB.out | apply below_alloc | apply pw_below_drewN | apply below_drew1) hb; clear HB; have HB := Lib.hid hb2; clear hb2; clear hb)
    | (go_at_call 10; with_reducible refine (span_Valid.calls k A0 c0 l0 true _ ?s1 HC0.out HV0.out).mono ?_; (case s1 => with_reducible repeat first | exact (Kd.C_below HR0.out HB.out) | refine Kd.C_alloc ?_ _ | refine Kd.C_drewN ?_ _ | refine Kd.C_drew ?_); rintro e w1 ⟨rfl, hb⟩; have hb2 : Below w.heap.size w _ := below_step (by with_reducible repeat first | exact HB.out | apply below_alloc | apply pw_below_drewN | apply below_drew1) hb; clear HB; have HB := Lib.hid hb2; clear hb2; clear hb)
    | (go_at_call 10; with_reducible refine (span_Valid.calls k A1 c1 l1 false _ ?s1 HC1.out HV1.out).mono ?_; (case s1 => with_reducible repeat first | exact (Kd.C_below HR1.out HB.out) | refine Kd.C_alloc ?_ _ | refine Kd.C_drewN ?_ _ | refine Kd.C_drew ?_); rintro e w1 ⟨rfl, hb⟩; have hb2 : Below w.heap.size w _ := below_step (by with_reducible repeat first | exact HB.out | apply below_alloc | apply pw_below_drewN | apply below_drew1) hb; clear HB; have HB := Lib.hid hb2; clear hb2; clear hb))
  go_ret
  exact ⟨rfl, by with_reducible repeat first | exact HB.out | apply below_alloc | apply pw_below_drewN | apply below_drew1⟩
set_option maxHeartbeats 8000000 in
set_option maxRecDepth 100000 in
theorem shifts_bad2 (k : Nat) (A0 A1 : Option Addr) (c0 c1 : Nat) (l0 l1 : List S30) (a2 : Int) (w : World) (hr0 : Kd.C k30 w A0 l0.length l0) (hc0 : l0.length ≤ c0) (hr1 : Kd.C k30 w A1 l1.length l1) (hc1 : l1.length ≤ c1) (hh : cohousinglaw04_head.f k = some true) (hv0 : span_Valid.f k l0 = some true) (hv1 : span_Valid.f k l1 = some true) (qa : a2 < -36524) :
    Calls Try.prog 6 #[.slice A0 l0.length c0, .slice A1 l1.length c1, .int .i64 a2] w fun e w' => e = .returned (.bool true) ∧ Below w.heap.size w w' := by
  have HR0 := Lib.hid hr0
  have HR1 := Lib.hid hr1
  have HC0 := Lib.hid hc0
  have HC1 := Lib.hid hc1
  have HH := Lib.hid hh
  have HV0 := Lib.hid hv0
  have HV1 := Lib.hid hv1
  have HB := Lib.hid (Below.refl w.heap.size w)
  clear hr0 hr1 hc0 hc1 hh hv0 hv1
  have pa := decide_eq_true qa
  go_enter Try.func6, Try.ntmps6
  go_wp2_with (first
    | (go_at_call 9; with_reducible refine (cohousinglaw04_head.calls k true _ HH.out).mono ?_; rintro e w1 ⟨rfl, hb⟩; have hb2 : Below w.heap.size w _ := below_step (by with_reducible repeat first | exact HB.out | apply below_alloc | apply pw_below_drewN | apply below_drew1) hb; clear HB; have HB := Lib.hid hb2; clear hb2; clear hb)
    | (go_at_call 10; with_reducible refine (span_Valid.calls k A0 c0 l0 true _ ?s1 HC0.out HV0.out).mono ?_; (case s1 => with_reducible repeat first | exact (Kd.C_below HR0.out HB.out) | refine Kd.C_alloc ?_ _ | refine Kd.C_drewN ?_ _ | refine Kd.C_drew ?_); rintro e w1 ⟨rfl, hb⟩; have hb2 : Below w.heap.size w _ := below_step (by with_reducible repeat first | exact HB.out | apply below_alloc | apply pw_below_drewN | apply below_drew1) hb; clear HB; have HB := Lib.hid hb2; clear hb2; clear hb)
    | (go_at_call 10; with_reducible refine (span_Valid.calls k A1 c1 l1 true _ ?s1 HC1.out HV1.out).mono ?_; (case s1 => with_reducible repeat first | exact (Kd.C_below HR1.out HB.out) | refine Kd.C_alloc ?_ _ | refine Kd.C_drewN ?_ _ | refine Kd.C_drew ?_); rintro e w1 ⟨rfl, hb⟩; have hb2 : Below w.heap.size w _ := below_step (by with_reducible repeat first | exact HB.out | apply below_alloc | apply pw_below_drewN | apply below_drew1) hb; clear HB; have HB := Lib.hid hb2; clear hb2; clear hb))
  go_ret
  exact ⟨rfl, by with_reducible repeat first | exact HB.out | apply below_alloc | apply pw_below_drewN | apply below_drew1⟩
set_option maxHeartbeats 8000000 in
set_option maxRecDepth 100000 in
theorem shifts_bad3 (k : Nat) (A0 A1 : Option Addr) (c0 c1 : Nat) (l0 l1 : List S30) (a2 : Int) (w : World) (hr0 : Kd.C k30 w A0 l0.length l0) (hc0 : l0.length ≤ c0) (hr1 : Kd.C k30 w A1 l1.length l1) (hc1 : l1.length ≤ c1) (hh : cohousinglaw04_head.f k = some true) (hv0 : span_Valid.f k l0 = some true) (hv1 : span_Valid.f k l1 = some true) (qa : ¬ a2 < -36524) (qb : a2 > 36524) :
    Calls Try.prog 6 #[.slice A0 l0.length c0, .slice A1 l1.length c1, .int .i64 a2] w fun e w' => e = .returned (.bool true) ∧ Below w.heap.size w w' := by
  have HR0 := Lib.hid hr0
  have HR1 := Lib.hid hr1
  have HC0 := Lib.hid hc0
  have HC1 := Lib.hid hc1
  have HH := Lib.hid hh
  have HV0 := Lib.hid hv0
  have HV1 := Lib.hid hv1
  have HB := Lib.hid (Below.refl w.heap.size w)
  clear hr0 hr1 hc0 hc1 hh hv0 hv1
  have pa := decide_eq_false qa
  have pb := decide_eq_true qb
  go_enter Try.func6, Try.ntmps6
  go_wp2_with (first
    | (go_at_call 9; with_reducible refine (cohousinglaw04_head.calls k true _ HH.out).mono ?_; rintro e w1 ⟨rfl, hb⟩; have hb2 : Below w.heap.size w _ := below_step (by with_reducible repeat first | exact HB.out | apply below_alloc | apply pw_below_drewN | apply below_drew1) hb; clear HB; have HB := Lib.hid hb2; clear hb2; clear hb)
    | (go_at_call 10; with_reducible refine (span_Valid.calls k A0 c0 l0 true _ ?s1 HC0.out HV0.out).mono ?_; (case s1 => with_reducible repeat first | exact (Kd.C_below HR0.out HB.out) | refine Kd.C_alloc ?_ _ | refine Kd.C_drewN ?_ _ | refine Kd.C_drew ?_); rintro e w1 ⟨rfl, hb⟩; have hb2 : Below w.heap.size w _ := below_step (by with_reducible repeat first | exact HB.out | apply below_alloc | apply pw_below_drewN | apply below_drew1) hb; clear HB; have HB := Lib.hid hb2; clear hb2; clear hb)
    | (go_at_call 10; with_reducible refine (span_Valid.calls k A1 c1 l1 true _ ?s1 HC1.out HV1.out).mono ?_; (case s1 => with_reducible repeat first | exact (Kd.C_below HR1.out HB.out) | refine Kd.C_alloc ?_ _ | refine Kd.C_drewN ?_ _ | refine Kd.C_drew ?_); rintro e w1 ⟨rfl, hb⟩; have hb2 : Below w.heap.size w _ := below_step (by with_reducible repeat first | exact HB.out | apply below_alloc | apply pw_below_drewN | apply below_drew1) hb; clear HB; have HB := Lib.hid hb2; clear hb2; clear hb))
  go_ret
  exact ⟨rfl, by with_reducible repeat first | exact HB.out | apply below_alloc | apply pw_below_drewN | apply below_drew1⟩
set_option maxHeartbeats 8000000 in
set_option maxRecDepth 100000 in
theorem shifts_bad4 (k : Nat) (A0 A1 : Option Addr) (c0 c1 : Nat) (l0 l1 : List S30) (a2 : Int) (w : World) (hr0 : Kd.C k30 w A0 l0.length l0) (hc0 : l0.length ≤ c0) (hr1 : Kd.C k30 w A1 l1.length l1) (hc1 : l1.length ≤ c1) (hh : cohousinglaw04_head.f k = some true) (hv0 : span_Valid.f k l0 = some true) (hv1 : span_Valid.f k l1 = some true) (qa : ¬ a2 < -36524) (qb : ¬ a2 > 36524) (q0 : (400 : Int) < (l0.length : Int)) :
    Calls Try.prog 6 #[.slice A0 l0.length c0, .slice A1 l1.length c1, .int .i64 a2] w fun e w' => e = .returned (.bool true) ∧ Below w.heap.size w w' := by
  have HR0 := Lib.hid hr0
  have HR1 := Lib.hid hr1
  have HC0 := Lib.hid hc0
  have HC1 := Lib.hid hc1
  have HH := Lib.hid hh
  have HV0 := Lib.hid hv0
  have HV1 := Lib.hid hv1
  have HB := Lib.hid (Below.refl w.heap.size w)
  clear hr0 hr1 hc0 hc1 hh hv0 hv1
  have pa := decide_eq_false qa
  have pb := decide_eq_false qb
  have p0 := decide_eq_true q0
  go_enter Try.func6, Try.ntmps6
  go_wp2_with (first
    | (go_at_call 9; with_reducible refine (cohousinglaw04_head.calls k true _ HH.out).mono ?_; rintro e w1 ⟨rfl, hb⟩; have hb2 : Below w.heap.size w _ := below_step (by with_reducible repeat first | exact HB.out | apply below_alloc | apply pw_below_drewN | apply below_drew1) hb; clear HB; have HB := Lib.hid hb2; clear hb2; clear hb)
    | (go_at_call 10; with_reducible refine (span_Valid.calls k A0 c0 l0 true _ ?s1 HC0.out HV0.out).mono ?_; (case s1 => with_reducible repeat first | exact (Kd.C_below HR0.out HB.out) | refine Kd.C_alloc ?_ _ | refine Kd.C_drewN ?_ _ | refine Kd.C_drew ?_); rintro e w1 ⟨rfl, hb⟩; have hb2 : Below w.heap.size w _ := below_step (by with_reducible repeat first | exact HB.out | apply below_alloc | apply pw_below_drewN | apply below_drew1) hb; clear HB; have HB := Lib.hid hb2; clear hb2; clear hb)
    | (go_at_call 10; with_reducible refine (span_Valid.calls k A1 c1 l1 true _ ?s1 HC1.out HV1.out).mono ?_; (case s1 => with_reducible repeat first | exact (Kd.C_below HR1.out HB.out) | refine Kd.C_alloc ?_ _ | refine Kd.C_drewN ?_ _ | refine Kd.C_drew ?_); rintro e w1 ⟨rfl, hb⟩; have hb2 : Below w.heap.size w _ := below_step (by with_reducible repeat first | exact HB.out | apply below_alloc | apply pw_below_drewN | apply below_drew1) hb; clear HB; have HB := Lib.hid hb2; clear hb2; clear hb))
  go_ret
  exact ⟨rfl, by with_reducible repeat first | exact HB.out | apply below_alloc | apply pw_below_drewN | apply below_drew1⟩
set_option maxHeartbeats 8000000 in
set_option maxRecDepth 100000 in
theorem shifts_bad5 (k : Nat) (A0 A1 : Option Addr) (c0 c1 : Nat) (l0 l1 : List S30) (a2 : Int) (w : World) (hr0 : Kd.C k30 w A0 l0.length l0) (hc0 : l0.length ≤ c0) (hr1 : Kd.C k30 w A1 l1.length l1) (hc1 : l1.length ≤ c1) (hh : cohousinglaw04_head.f k = some true) (hv0 : span_Valid.f k l0 = some true) (hv1 : span_Valid.f k l1 = some true) (qa : ¬ a2 < -36524) (qb : ¬ a2 > 36524) (q0 : ¬ (400 : Int) < (l0.length : Int)) (q1 : (400 : Int) < (l1.length : Int)) :
    Calls Try.prog 6 #[.slice A0 l0.length c0, .slice A1 l1.length c1, .int .i64 a2] w fun e w' => e = .returned (.bool true) ∧ Below w.heap.size w w' := by
  have HR0 := Lib.hid hr0
  have HR1 := Lib.hid hr1
  have HC0 := Lib.hid hc0
  have HC1 := Lib.hid hc1
  have HH := Lib.hid hh
  have HV0 := Lib.hid hv0
  have HV1 := Lib.hid hv1
  have HB := Lib.hid (Below.refl w.heap.size w)
  clear hr0 hr1 hc0 hc1 hh hv0 hv1
  have pa := decide_eq_false qa
  have pb := decide_eq_false qb
  have p0 := decide_eq_false q0
  have p1 := decide_eq_true q1
  go_enter Try.func6, Try.ntmps6
  go_wp2_with (first
    | (go_at_call 9; with_reducible refine (cohousinglaw04_head.calls k true _ HH.out).mono ?_; rintro e w1 ⟨rfl, hb⟩; have hb2 : Below w.heap.size w _ := below_step (by with_reducible repeat first | exact HB.out | apply below_alloc | apply pw_below_drewN | apply below_drew1) hb; clear HB; have HB := Lib.hid hb2; clear hb2; clear hb)
    | (go_at_call 10; with_reducible refine (span_Valid.calls k A0 c0 l0 true _ ?s1 HC0.out HV0.out).mono ?_; (case s1 => with_reducible repeat first | exact (Kd.C_below HR0.out HB.out) | refine Kd.C_alloc ?_ _ | refine Kd.C_drewN ?_ _ | refine Kd.C_drew ?_); rintro e w1 ⟨rfl, hb⟩; have hb2 : Below w.heap.size w _ := below_step (by with_reducible repeat first | exact HB.out | apply below_alloc | apply pw_below_drewN | apply below_drew1) hb; clear HB; have HB := Lib.hid hb2; clear hb2; clear hb)
    | (go_at_call 10; with_reducible refine (span_Valid.calls k A1 c1 l1 true _ ?s1 HC1.out HV1.out).mono ?_; (case s1 => with_reducible repeat first | exact (Kd.C_below HR1.out HB.out) | refine Kd.C_alloc ?_ _ | refine Kd.C_drewN ?_ _ | refine Kd.C_drew ?_); rintro e w1 ⟨rfl, hb⟩; have hb2 : Below w.heap.size w _ := below_step (by with_reducible repeat first | exact HB.out | apply below_alloc | apply pw_below_drewN | apply below_drew1) hb; clear HB; have HB := Lib.hid hb2; clear hb2; clear hb))
  go_ret
  exact ⟨rfl, by with_reducible repeat first | exact HB.out | apply below_alloc | apply pw_below_drewN | apply below_drew1⟩
set_option maxHeartbeats 8000000 in
set_option maxRecDepth 100000 in
theorem shifts_bad6 (k : Nat) (A0 A1 : Option Addr) (c0 c1 : Nat) (l0 l1 : List S30) (a2 : Int) (c d : List S30) (w : World) (hr0 : Kd.C k30 w A0 l0.length l0) (hc0 : l0.length ≤ c0) (hr1 : Kd.C k30 w A1 l1.length l1) (hc1 : l1.length ≤ c1) (hh : cohousinglaw04_head.f k = some true) (hv0 : span_Valid.f k l0 = some true) (hv1 : span_Valid.f k l1 = some true) (qa : ¬ a2 < -36524) (qb : ¬ a2 > 36524) (q0 : ¬ (400 : Int) < (l0.length : Int)) (q1 : ¬ (400 : Int) < (l1.length : Int)) (hs0 : cohousingref04_Shift.f k l0 a2 = some c) (hs1 : cohousingref04_Shift.f k l1 a2 = some d) (hvc : span_Valid.f k c = some false) :
    Calls Try.prog 6 #[.slice A0 l0.length c0, .slice A1 l1.length c1, .int .i64 a2] w fun e w' => e = .returned (.bool true) ∧ Below w.heap.size w w' := by
  have HR0 := Lib.hid hr0
  have HR1 := Lib.hid hr1
  have HC0 := Lib.hid hc0
  have HC1 := Lib.hid hc1
  have HH := Lib.hid hh
  have HV0 := Lib.hid hv0
  have HV1 := Lib.hid hv1
  have HS0 := Lib.hid hs0
  have HS1 := Lib.hid hs1
  have HVC := Lib.hid hvc
  have HB := Lib.hid (Below.refl w.heap.size w)
  clear hr0 hr1 hc0 hc1 hh hv0 hv1 hs0 hs1 hvc
  have pa := decide_eq_false qa
  have pb := decide_eq_false qb
  have p0 := decide_eq_false q0
  have p1 := decide_eq_false q1
  go_enter Try.func6, Try.ntmps6
  go_wp2_with (first
    | (go_at_call 9; with_reducible refine (cohousinglaw04_head.calls k true _ HH.out).mono ?_; rintro e w1 ⟨rfl, hb⟩; have hb2 : Below w.heap.size w _ := below_step (by with_reducible repeat first | exact HB.out | apply below_alloc | apply pw_below_drewN | apply below_drew1) hb; clear HB; have HB := Lib.hid hb2; clear hb2; clear hb)
    | (go_at_call 10; with_reducible refine (span_Valid.calls k A0 c0 l0 true _ ?s1 HC0.out HV0.out).mono ?_; (case s1 => with_reducible repeat first | exact (Kd.C_below HR0.out HB.out) | refine Kd.C_alloc ?_ _ | refine Kd.C_drewN ?_ _ | refine Kd.C_drew ?_); rintro e w1 ⟨rfl, hb⟩; have hb2 : Below w.heap.size w _ := below_step (by with_reducible repeat first | exact HB.out | apply below_alloc | apply pw_below_drewN | apply below_drew1) hb; clear HB; have HB := Lib.hid hb2; clear hb2; clear hb)
    | (go_at_call 10; with_reducible refine (span_Valid.calls k A1 c1 l1 true _ ?s1 HC1.out HV1.out).mono ?_; (case s1 => with_reducible repeat first | exact (Kd.C_below HR1.out HB.out) | refine Kd.C_alloc ?_ _ | refine Kd.C_drewN ?_ _ | refine Kd.C_drew ?_); rintro e w1 ⟨rfl, hb⟩; have hb2 : Below w.heap.size w _ := below_step (by with_reducible repeat first | exact HB.out | apply below_alloc | apply pw_below_drewN | apply below_drew1) hb; clear HB; have HB := Lib.hid hb2; clear hb2; clear hb)
    | (go_at_call 18; with_reducible refine (cohousingref04_Shift.calls k A0 c0 l0 a2 c _ ?s1 HC0.out HS0.out).mono ?_; (case s1 => with_reducible repeat first | exact (Kd.C_below HR0.out HB.out) | refine Kd.C_alloc ?_ _ | refine Kd.C_drewN ?_ _ | refine Kd.C_drew ?_); rintro e w2 ⟨v, rfl, ho, hb⟩; obtain ⟨Bc, bc, rfl, hlc, hqc⟩ := Kd.R_reads ho; have Lc := Lib.hid hlc; have Rc := Lib.hid hqc; clear ho hlc hqc; have hb2 : Below w.heap.size w _ := below_step (by with_reducible repeat first | exact HB.out | apply below_alloc | apply pw_below_drewN | apply below_drew1) hb; clear HB; have HB := Lib.hid hb2; clear hb2; clear hb)
    | (go_at_call 18; with_reducible refine (cohousingref04_Shift.calls k A1 c1 l1 a2 d _ ?s1 HC1.out HS1.out).mono ?_; (case s1 => with_reducible repeat first | exact (Kd.C_below HR1.out HB.out) | refine Kd.C_alloc ?_ _ | refine Kd.C_drewN ?_ _ | refine Kd.C_drew ?_); rintro e w2 ⟨v, rfl, ho, hb⟩; obtain ⟨Bd, bd, rfl, hld, hqd⟩ := Kd.R_reads ho; have Ld := Lib.hid hld; have Rd := Lib.hid hqd; clear ho hld hqd; have qRc : Kd.C k30 w2 Bc c.length c := Kd.C_below (by with_reducible repeat first | exact Rc.out | refine Kd.C_alloc ?_ _ | refine Kd.C_drewN ?_ _ | refine Kd.C_drew ?_) hb; clear Rc; have Rc := Lib.hid qRc; clear qRc; have hb2 : Below w.heap.size w _ := below_step (by with_reducible repeat first | exact HB.out | apply below_alloc | apply pw_below_drewN | apply below_drew1) hb; clear HB; have HB := Lib.hid hb2; clear hb2; clear hb)
    | (go_at_call 10; with_reducible refine (span_Valid.calls k Bc bc c false _ ?s1 Lc.out HVC.out).mono ?_; (case s1 => with_reducible repeat first | exact Rc.out | refine Kd.C_alloc ?_ _ | refine Kd.C_drewN ?_ _ | refine Kd.C_drew ?_); rintro e w3 ⟨rfl, hb⟩; have qRc : Kd.C k30 w3 Bc c.length c := Kd.C_below (by with_reducible repeat first | exact Rc.out | refine Kd.C_alloc ?_ _ | refine Kd.C_drewN ?_ _ | refine Kd.C_drew ?_) hb; clear Rc; have Rc := Lib.hid qRc; clear qRc; have qRd : Kd.C k30 w3 Bd d.length d := Kd.C_below (by with_reducible repeat first | exact Rd.out | refine Kd.C_alloc ?_ _ | refine Kd.C_drewN ?_ _ | refine Kd.C_drew ?_) hb; clear Rd; have Rd := Lib.hid qRd; clear qRd; have hb2 : Below w.heap.size w _ := below_step (by with_reducible repeat first | exact HB.out | apply below_alloc | apply pw_below_drewN | apply below_drew1) hb; clear HB; have HB := Lib.hid hb2; clear hb2; clear hb))
  go_ret
  exact ⟨rfl, by with_reducible repeat first | exact HB.out | apply below_alloc | apply pw_below_drewN | apply below_drew1⟩
set_option maxHeartbeats 8000000 in
set_option maxRecDepth 100000 in
theorem shifts_bad7 (k : Nat) (A0 A1 : Option Addr) (c0 c1 : Nat) (l0 l1 : List S30) (a2 : Int) (c d : List S30) (w : World) (hr0 : Kd.C k30 w A0 l0.length l0) (hc0 : l0.length ≤ c0) (hr1 : Kd.C k30 w A1 l1.length l1) (hc1 : l1.length ≤ c1) (hh : cohousinglaw04_head.f k = some true) (hv0 : span_Valid.f k l0 = some true) (hv1 : span_Valid.f k l1 = some true) (qa : ¬ a2 < -36524) (qb : ¬ a2 > 36524) (q0 : ¬ (400 : Int) < (l0.length : Int)) (q1 : ¬ (400 : Int) < (l1.length : Int)) (hs0 : cohousingref04_Shift.f k l0 a2 = some c) (hs1 : cohousingref04_Shift.f k l1 a2 = some d) (hvc : span_Valid.f k c = some true) (hvd : span_Valid.f k d = some false) :
    Calls Try.prog 6 #[.slice A0 l0.length c0, .slice A1 l1.length c1, .int .i64 a2] w fun e w' => e = .returned (.bool true) ∧ Below w.heap.size w w' := by
  have HR0 := Lib.hid hr0
  have HR1 := Lib.hid hr1
  have HC0 := Lib.hid hc0
  have HC1 := Lib.hid hc1
  have HH := Lib.hid hh
  have HV0 := Lib.hid hv0
  have HV1 := Lib.hid hv1
  have HS0 := Lib.hid hs0
  have HS1 := Lib.hid hs1
  have HVC := Lib.hid hvc
  have HVD := Lib.hid hvd
  have HB := Lib.hid (Below.refl w.heap.size w)
  clear hr0 hr1 hc0 hc1 hh hv0 hv1 hs0 hs1 hvc hvd
  have pa := decide_eq_false qa
  have pb := decide_eq_false qb
  have p0 := decide_eq_false q0
  have p1 := decide_eq_false q1
  go_enter Try.func6, Try.ntmps6
  go_wp2_with (first
    | (go_at_call 9; with_reducible refine (cohousinglaw04_head.calls k true _ HH.out).mono ?_; rintro e w1 ⟨rfl, hb⟩; have hb2 : Below w.heap.size w _ := below_step (by with_reducible repeat first | exact HB.out | apply below_alloc | apply pw_below_drewN | apply below_drew1) hb; clear HB; have HB := Lib.hid hb2; clear hb2; clear hb)
    | (go_at_call 10; with_reducible refine (span_Valid.calls k A0 c0 l0 true _ ?s1 HC0.out HV0.out).mono ?_; (case s1 => with_reducible repeat first | exact (Kd.C_below HR0.out HB.out) | refine Kd.C_alloc ?_ _ | refine Kd.C_drewN ?_ _ | refine Kd.C_drew ?_); rintro e w1 ⟨rfl, hb⟩; have hb2 : Below w.heap.size w _ := below_step (by with_reducible repeat first | exact HB.out | apply below_alloc | apply pw_below_drewN | apply below_drew1) hb; clear HB; have HB := Lib.hid hb2; clear hb2; clear hb)
    | (go_at_call 10; with_reducible refine (span_Valid.calls k A1 c1 l1 true _ ?s1 HC1.out HV1.out).mono ?_; (case s1 => with_reducible repeat first | exact (Kd.C_below HR1.out HB.out) | refine Kd.C_alloc ?_ _ | refine Kd.C_drewN ?_ _ | refine Kd.C_drew ?_); rintro e w1 ⟨rfl, hb⟩; have hb2 : Below w.heap.size w _ := below_step (by with_reducible repeat first | exact HB.out | apply below_alloc | apply pw_below_drewN | apply below_drew1) hb; clear HB; have HB := Lib.hid hb2; clear hb2; clear hb)
    | (go_at_call 18; with_reducible refine (cohousingref04_Shift.calls k A0 c0 l0 a2 c _ ?s1 HC0.out HS0.out).mono ?_; (case s1 => with_reducible repeat first | exact (Kd.C_below HR0.out HB.out) | refine Kd.C_alloc ?_ _ | refine Kd.C_drewN ?_ _ | refine Kd.C_drew ?_); rintro e w2 ⟨v, rfl, ho, hb⟩; obtain ⟨Bc, bc, rfl, hlc, hqc⟩ := Kd.R_reads ho; have Lc := Lib.hid hlc; have Rc := Lib.hid hqc; clear ho hlc hqc; have hb2 : Below w.heap.size w _ := below_step (by with_reducible repeat first | exact HB.out | apply below_alloc | apply pw_below_drewN | apply below_drew1) hb; clear HB; have HB := Lib.hid hb2; clear hb2; clear hb)
    | (go_at_call 18; with_reducible refine (cohousingref04_Shift.calls k A1 c1 l1 a2 d _ ?s1 HC1.out HS1.out).mono ?_; (case s1 => with_reducible repeat first | exact (Kd.C_below HR1.out HB.out) | refine Kd.C_alloc ?_ _ | refine Kd.C_drewN ?_ _ | refine Kd.C_drew ?_); rintro e w2 ⟨v, rfl, ho, hb⟩; obtain ⟨Bd, bd, rfl, hld, hqd⟩ := Kd.R_reads ho; have Ld := Lib.hid hld; have Rd := Lib.hid hqd; clear ho hld hqd; have qRc : Kd.C k30 w2 Bc c.length c := Kd.C_below (by with_reducible repeat first | exact Rc.out | refine Kd.C_alloc ?_ _ | refine Kd.C_drewN ?_ _ | refine Kd.C_drew ?_) hb; clear Rc; have Rc := Lib.hid qRc; clear qRc; have hb2 : Below w.heap.size w _ := below_step (by with_reducible repeat first | exact HB.out | apply below_alloc | apply pw_below_drewN | apply below_drew1) hb; clear HB; have HB := Lib.hid hb2; clear hb2; clear hb)
    | (go_at_call 10; with_reducible refine (span_Valid.calls k Bc bc c true _ ?s1 Lc.out HVC.out).mono ?_; (case s1 => with_reducible repeat first | exact Rc.out | refine Kd.C_alloc ?_ _ | refine Kd.C_drewN ?_ _ | refine Kd.C_drew ?_); rintro e w3 ⟨rfl, hb⟩; have qRc : Kd.C k30 w3 Bc c.length c := Kd.C_below (by with_reducible repeat first | exact Rc.out | refine Kd.C_alloc ?_ _ | refine Kd.C_drewN ?_ _ | refine Kd.C_drew ?_) hb; clear Rc; have Rc := Lib.hid qRc; clear qRc; have qRd : Kd.C k30 w3 Bd d.length d := Kd.C_below (by with_reducible repeat first | exact Rd.out | refine Kd.C_alloc ?_ _ | refine Kd.C_drewN ?_ _ | refine Kd.C_drew ?_) hb; clear Rd; have Rd := Lib.hid qRd; clear qRd; have hb2 : Below w.heap.size w _ := below_step (by with_reducible repeat first | exact HB.out | apply below_alloc | apply pw_below_drewN | apply below_drew1) hb; clear HB; have HB := Lib.hid hb2; clear hb2; clear hb)
    | (go_at_call 10; with_reducible refine (span_Valid.calls k Bd bd d false _ ?s1 Ld.out HVD.out).mono ?_; (case s1 => with_reducible repeat first | exact Rd.out | refine Kd.C_alloc ?_ _ | refine Kd.C_drewN ?_ _ | refine Kd.C_drew ?_); rintro e w3 ⟨rfl, hb⟩; have qRc : Kd.C k30 w3 Bc c.length c := Kd.C_below (by with_reducible repeat first | exact Rc.out | refine Kd.C_alloc ?_ _ | refine Kd.C_drewN ?_ _ | refine Kd.C_drew ?_) hb; clear Rc; have Rc := Lib.hid qRc; clear qRc; have qRd : Kd.C k30 w3 Bd d.length d := Kd.C_below (by with_reducible repeat first | exact Rd.out | refine Kd.C_alloc ?_ _ | refine Kd.C_drewN ?_ _ | refine Kd.C_drew ?_) hb; clear Rd; have Rd := Lib.hid qRd; clear qRd; have hb2 : Below w.heap.size w _ := below_step (by with_reducible repeat first | exact HB.out | apply below_alloc | apply pw_below_drewN | apply below_drew1) hb; clear HB; have HB := Lib.hid hb2; clear hb2; clear hb))
  go_ret
  exact ⟨rfl, by with_reducible repeat first | exact HB.out | apply below_alloc | apply pw_below_drewN | apply below_drew1⟩
set_option maxHeartbeats 8000000 in
set_option maxRecDepth 100000 in
theorem shifts_main (k : Nat) (A0 A1 : Option Addr) (c0 c1 : Nat) (l0 l1 : List S30) (a2 : Int) (c d u u' u'' m m' m'' x x' x'' : List S30) (w : World) (hr0 : Kd.C k30 w A0 l0.length l0) (hc0 : l0.length ≤ c0) (hr1 : Kd.C k30 w A1 l1.length l1) (hc1 : l1.length ≤ c1) (hh : cohousinglaw04_head.f k = some true) (hv0 : span_Valid.f k l0 = some true) (hv1 : span_Valid.f k l1 = some true) (qa : ¬ a2 < -36524) (qb : ¬ a2 > 36524) (q0 : ¬ (400 : Int) < (l0.length : Int)) (q1 : ¬ (400 : Int) < (l1.length : Int)) (hs0 : cohousingref04_Shift.f k l0 a2 = some c) (hs1 : cohousingref04_Shift.f k l1 a2 = some d)
    (hvc : span_Valid.f k c = some true) (hvd : span_Valid.f k d = some true)
    (hu : cohousinglaw04_done_Union.f k true l0 l1 = some (u, true)) (gu : cohousinglaw04_done_Union.f k true c d = some (u', true)) (ju : cohousingref04_Shift.f k u a2 = some u'') (eu : cohousingref04_Same.f k u'' u' = some true) (hm : cohousinglaw04_done_Meet.f k true l0 l1 = some (m, true)) (gm : cohousinglaw04_done_Meet.f k true c d = some (m', true)) (jm : cohousingref04_Shift.f k m a2 = some m'') (em : cohousingref04_Same.f k m'' m' = some true) (hx : cohousinglaw04_done_Without.f k true l0 l1 = some (x, true)) (gx : cohousinglaw04_done_Without.f k true c d = some (x', true)) (jx : cohousingref04_Shift.f k x a2 = some x'') (ex : cohousingref04_Same.f k x'' x' = some true) :
    Calls Try.prog 6 #[.slice A0 l0.length c0, .slice A1 l1.length c1, .int .i64 a2] w fun e w' => e = .returned (.bool true) ∧ Below w.heap.size w w' := by
  have HR0 := Lib.hid hr0
  have HR1 := Lib.hid hr1
  have HC0 := Lib.hid hc0
  have HC1 := Lib.hid hc1
  have HH := Lib.hid hh
  have HV0 := Lib.hid hv0
  have HV1 := Lib.hid hv1
  have HS0 := Lib.hid hs0
  have HS1 := Lib.hid hs1
  have HVC := Lib.hid hvc
  have HVD := Lib.hid hvd
  have Hu := Lib.hid hu
  have Gu := Lib.hid gu
  have Ju := Lib.hid ju
  have Eu := Lib.hid eu
  have Hm := Lib.hid hm
  have Gm := Lib.hid gm
  have Jm := Lib.hid jm
  have Em := Lib.hid em
  have Hx := Lib.hid hx
  have Gx := Lib.hid gx
  have Jx := Lib.hid jx
  have Ex := Lib.hid ex
  have HB := Lib.hid (Below.refl w.heap.size w)
  clear hr0 hr1 hc0 hc1 hh hv0 hv1 hs0 hs1 hvc hvd hu gu ju eu hm gm jm em hx gx jx ex
  have pa := decide_eq_false qa
  have pb := decide_eq_false qb
  have p0 := decide_eq_false q0
  have p1 := decide_eq_false q1
  go_enter Try.func6, Try.ntmps6
  go_upto_region 7 with (first
    | (go_at_call 9; with_reducible refine (cohousinglaw04_head.calls k true _ HH.out).mono ?_; rintro e w1 ⟨rfl, hb⟩; have hb2 : Below w.heap.size w _ := below_step (by with_reducible repeat first | exact HB.out | apply below_alloc | apply pw_below_drewN | apply below_drew1) hb; clear HB; have HB := Lib.hid hb2; clear hb2; clear hb)
    | (go_at_call 10; with_reducible refine (span_Valid.calls k A0 c0 l0 true _ ?s1 HC0.out HV0.out).mono ?_; (case s1 => with_reducible repeat first | exact (Kd.C_below HR0.out HB.out) | refine Kd.C_alloc ?_ _ | refine Kd.C_drewN ?_ _ | refine Kd.C_drew ?_); rintro e w1 ⟨rfl, hb⟩; have hb2 : Below w.heap.size w _ := below_step (by with_reducible repeat first | exact HB.out | apply below_alloc | apply pw_below_drewN | apply below_drew1) hb; clear HB; have HB := Lib.hid hb2; clear hb2; clear hb)
    | (go_at_call 10; with_reducible refine (span_Valid.calls k A1 c1 l1 true _ ?s1 HC1.out HV1.out).mono ?_; (case s1 => with_reducible repeat first | exact (Kd.C_below HR1.out HB.out) | refine Kd.C_alloc ?_ _ | refine Kd.C_drewN ?_ _ | refine Kd.C_drew ?_); rintro e w1 ⟨rfl, hb⟩; have hb2 : Below w.heap.size w _ := below_step (by with_reducible repeat first | exact HB.out | apply below_alloc | apply pw_below_drewN | apply below_drew1) hb; clear HB; have HB := Lib.hid hb2; clear hb2; clear hb)
    | (go_at_call 18; with_reducible refine (cohousingref04_Shift.calls k A0 c0 l0 a2 c _ ?s1 HC0.out HS0.out).mono ?_; (case s1 => with_reducible repeat first | exact (Kd.C_below HR0.out HB.out) | refine Kd.C_alloc ?_ _ | refine Kd.C_drewN ?_ _ | refine Kd.C_drew ?_); rintro e w2 ⟨v, rfl, ho, hb⟩; obtain ⟨Bc, bc, rfl, hlc, hqc⟩ := Kd.R_reads ho; have Lc := Lib.hid hlc; have Rc := Lib.hid hqc; clear ho hlc hqc; have hb2 : Below w.heap.size w _ := below_step (by with_reducible repeat first | exact HB.out | apply below_alloc | apply pw_below_drewN | apply below_drew1) hb; clear HB; have HB := Lib.hid hb2; clear hb2; clear hb)
    | (go_at_call 18; with_reducible refine (cohousingref04_Shift.calls k A1 c1 l1 a2 d _ ?s1 HC1.out HS1.out).mono ?_; (case s1 => with_reducible repeat first | exact (Kd.C_below HR1.out HB.out) | refine Kd.C_alloc ?_ _ | refine Kd.C_drewN ?_ _ | refine Kd.C_drew ?_); rintro e w2 ⟨v, rfl, ho, hb⟩; obtain ⟨Bd, bd, rfl, hld, hqd⟩ := Kd.R_reads ho; have Ld := Lib.hid hld; have Rd := Lib.hid hqd; clear ho hld hqd; have qRc : Kd.C k30 w2 Bc c.length c := Kd.C_below (by with_reducible repeat first | exact Rc.out | refine Kd.C_alloc ?_ _ | refine Kd.C_drewN ?_ _ | refine Kd.C_drew ?_) hb; clear Rc; have Rc := Lib.hid qRc; clear qRc; have hb2 : Below w.heap.size w _ := below_step (by with_reducible repeat first | exact HB.out | apply below_alloc | apply pw_below_drewN | apply below_drew1) hb; clear HB; have HB := Lib.hid hb2; clear hb2; clear hb)
    | (go_at_call 10; with_reducible refine (span_Valid.calls k Bc bc c true _ ?s1 Lc.out HVC.out).mono ?_; (case s1 => with_reducible repeat first | exact Rc.out | refine Kd.C_alloc ?_ _ | refine Kd.C_drewN ?_ _ | refine Kd.C_drew ?_); rintro e w3 ⟨rfl, hb⟩; have qRc : Kd.C k30 w3 Bc c.length c := Kd.C_below (by with_reducible repeat first | exact Rc.out | refine Kd.C_alloc ?_ _ | refine Kd.C_drewN ?_ _ | refine Kd.C_drew ?_) hb; clear Rc; have Rc := Lib.hid qRc; clear qRc; have qRd : Kd.C k30 w3 Bd d.length d := Kd.C_below (by with_reducible repeat first | exact Rd.out | refine Kd.C_alloc ?_ _ | refine Kd.C_drewN ?_ _ | refine Kd.C_drew ?_) hb; clear Rd; have Rd := Lib.hid qRd; clear qRd; have hb2 : Below w.heap.size w _ := below_step (by with_reducible repeat first | exact HB.out | apply below_alloc | apply pw_below_drewN | apply below_drew1) hb; clear HB; have HB := Lib.hid hb2; clear hb2; clear hb)
    | (go_at_call 10; with_reducible refine (span_Valid.calls k Bd bd d true _ ?s1 Ld.out HVD.out).mono ?_; (case s1 => with_reducible repeat first | exact Rd.out | refine Kd.C_alloc ?_ _ | refine Kd.C_drewN ?_ _ | refine Kd.C_drew ?_); rintro e w3 ⟨rfl, hb⟩; have qRc : Kd.C k30 w3 Bc c.length c := Kd.C_below (by with_reducible repeat first | exact Rc.out | refine Kd.C_alloc ?_ _ | refine Kd.C_drewN ?_ _ | refine Kd.C_drew ?_) hb; clear Rc; have Rc := Lib.hid qRc; clear qRc; have qRd : Kd.C k30 w3 Bd d.length d := Kd.C_below (by with_reducible repeat first | exact Rd.out | refine Kd.C_alloc ?_ _ | refine Kd.C_drewN ?_ _ | refine Kd.C_drew ?_) hb; clear Rd; have Rd := Lib.hid qRd; clear qRd; have hb2 : Below w.heap.size w _ := below_step (by with_reducible repeat first | exact HB.out | apply below_alloc | apply pw_below_drewN | apply below_drew1) hb; clear HB; have HB := Lib.hid hb2; clear hb2; clear hb))
  go_wp2_with fail
  obtain ⟨L, hL⟩ : ∃ L_ : Nat, L_ = w3.heap.size := ⟨_, rfl⟩
  obtain ⟨W, hW⟩ : ∃ W_ : World, W_ = w3.alloc (.cells #[.func (.func 15) #[] #[], .func (.func 16) #[] #[], .func (.func 13) #[] #[]] 31) := ⟨_, rfl⟩
  have BL := Lib.hid (by rw [hW, hL]; exact heap_alloc_new _ _ : W.heap[L]? = some (.cells #[.func (.func 15) #[] #[], .func (.func 16) #[] #[], .func (.func 13) #[] #[]] 31 (0, 0)))
  have q1_ := Kd.C_alloc Rc.out (.cells #[.func (.func 15) #[] #[], .func (.func 16) #[] #[], .func (.func 13) #[] #[]] 31)
  have q2_ := Kd.C_alloc Rd.out (.cells #[.func (.func 15) #[] #[], .func (.func 16) #[] #[], .func (.func 13) #[] #[]] 31)
  have q3_ := below_alloc HB.out (.cells #[.func (.func 15) #[] #[], .func (.func 16) #[] #[], .func (.func 13) #[] #[]] 31)
  rw [← hW] at q1_ q2_ q3_
  clear Rc Rd HB
  have Rc := Lib.hid q1_
  have Rd := Lib.hid q2_
  have HB := Lib.hid q3_
  clear q1_ q2_ q3_
  rw [← hW]
  rw [← hL]
  clear hW hL
  refine wp_loop_rounds 4 ?_
  rw [rounds_succ]
  have y0 : W.cell? ⟨L, 0, none⟩ = some (.func (.func 15) #[] #[]) := (blk_cell BL.out 0).trans rfl
  go_wp2_with (first
    | (go_at_call 14; with_reducible refine (cohousinglaw04_done_Union.calls k true A0 c0 l0 A1 c1 l1 u true _ ?s1 HC0.out ?s2 HC1.out Hu.out).mono ?_; (case s1 => with_reducible repeat first | exact (Kd.C_below HR0.out HB.out) | refine Kd.C_alloc ?_ _ | refine Kd.C_drewN ?_ _ | refine Kd.C_drew ?_); (case s2 => with_reducible repeat first | exact (Kd.C_below HR1.out HB.out) | refine Kd.C_alloc ?_ _ | refine Kd.C_drewN ?_ _ | refine Kd.C_drew ?_); rintro e w4 ⟨v, rfl, ho, hb⟩; obtain ⟨Bu, bu, rfl, hlu, hqu⟩ := Kd.R_reads ho; have Lu := Lib.hid hlu; have Ru := Lib.hid hqu; clear ho hlu hqu; have qRc : Kd.C k30 w4 Bc c.length c := Kd.C_below (by with_reducible repeat first | exact Rc.out | refine Kd.C_alloc ?_ _ | refine Kd.C_drewN ?_ _ | refine Kd.C_drew ?_) hb; clear Rc; have Rc := Lib.hid qRc; clear qRc; have qRd : Kd.C k30 w4 Bd d.length d := Kd.C_below (by with_reducible repeat first | exact Rd.out | refine Kd.C_alloc ?_ _ | refine Kd.C_drewN ?_ _ | refine Kd.C_drew ?_) hb; clear Rd; have Rd := Lib.hid qRd; clear qRd; have qb_ : w4.heap[L]? = some (.cells #[.func (.func 15) #[] #[], .func (.func 16) #[] #[], .func (.func 13) #[] #[]] 31 (0, 0)) := blk_below (by (with_reducible repeat (first | refine blk_drewN ?_ _ | refine blk_drew ?_ | refine blk_alloc ?_ _)); exact BL.out) hb; clear BL; have BL := Lib.hid qb_; clear qb_; have hb2 : Below w.heap.size w _ := below_step (by with_reducible repeat first | exact HB.out | apply below_alloc | apply pw_below_drewN | apply below_drew1) hb; clear HB; have HB := Lib.hid hb2; clear hb2; clear hb)
    | (go_at_call 14; with_reducible refine (cohousinglaw04_done_Union.calls k true Bc bc c Bd bd d u' true _ ?s1 Lc.out ?s2 Ld.out Gu.out).mono ?_; (case s1 => with_reducible repeat first | exact Rc.out | refine Kd.C_alloc ?_ _ | refine Kd.C_drewN ?_ _ | refine Kd.C_drew ?_); (case s2 => with_reducible repeat first | exact Rd.out | refine Kd.C_alloc ?_ _ | refine Kd.C_drewN ?_ _ | refine Kd.C_drew ?_); rintro e w4 ⟨v, rfl, ho, hb⟩; obtain ⟨Bp, bp, rfl, hlp, hqp⟩ := Kd.R_reads ho; have Lp := Lib.hid hlp; have Rp := Lib.hid hqp; clear ho hlp hqp; have qRc : Kd.C k30 w4 Bc c.length c := Kd.C_below (by with_reducible repeat first | exact Rc.out | refine Kd.C_alloc ?_ _ | refine Kd.C_drewN ?_ _ | refine Kd.C_drew ?_) hb; clear Rc; have Rc := Lib.hid qRc; clear qRc; have qRd : Kd.C k30 w4 Bd d.length d := Kd.C_below (by with_reducible repeat first | exact Rd.out | refine Kd.C_alloc ?_ _ | refine Kd.C_drewN ?_ _ | refine Kd.C_drew ?_) hb; clear Rd; have Rd := Lib.hid qRd; clear qRd; have qRu : Kd.C k30 w4 Bu u.length u := Kd.C_below (by with_reducible repeat first | exact Ru.out | refine Kd.C_alloc ?_ _ | refine Kd.C_drewN ?_ _ | refine Kd.C_drew ?_) hb; clear Ru; have Ru := Lib.hid qRu; clear qRu; have qb_ : w4.heap[L]? = some (.cells #[.func (.func 15) #[] #[], .func (.func 16) #[] #[], .func (.func 13) #[] #[]] 31 (0, 0)) := blk_below (by (with_reducible repeat (first | refine blk_drewN ?_ _ | refine blk_drew ?_ | refine blk_alloc ?_ _)); exact BL.out) hb; clear BL; have BL := Lib.hid qb_; clear qb_; have hb2 : Below w.heap.size w _ := below_step (by with_reducible repeat first | exact HB.out | apply below_alloc | apply pw_below_drewN | apply below_drew1) hb; clear HB; have HB := Lib.hid hb2; clear hb2; clear hb)
    | (go_at_call 18; with_reducible refine (cohousingref04_Shift.calls k Bu bu u a2 u'' _ ?s1 Lu.out Ju.out).mono ?_; (case s1 => with_reducible repeat first | exact Ru.out | refine Kd.C_alloc ?_ _ | refine Kd.C_drewN ?_ _ | refine Kd.C_drew ?_); rintro e w4 ⟨v, rfl, ho, hb⟩; obtain ⟨Bq, bq, rfl, hlq, hqq⟩ := Kd.R_reads ho; have Lq := Lib.hid hlq; have Rq := Lib.hid hqq; clear ho hlq hqq; have qRc : Kd.C k30 w4 Bc c.length c := Kd.C_below (by with_reducible repeat first | exact Rc.out | refine Kd.C_alloc ?_ _ | refine Kd.C_drewN ?_ _ | refine Kd.C_drew ?_) hb; clear Rc; have Rc := Lib.hid qRc; clear qRc; have qRd : Kd.C k30 w4 Bd d.length d := Kd.C_below (by with_reducible repeat first | exact Rd.out | refine Kd.C_alloc ?_ _ | refine Kd.C_drewN ?_ _ | refine Kd.C_drew ?_) hb; clear Rd; have Rd := Lib.hid qRd; clear qRd; have qRp : Kd.C k30 w4 Bp u'.length u' := Kd.C_below (by with_reducible repeat first | exact Rp.out | refine Kd.C_alloc ?_ _ | refine Kd.C_drewN ?_ _ | refine Kd.C_drew ?_) hb; clear Rp; have Rp := Lib.hid qRp; clear qRp; have qb_ : w4.heap[L]? = some (.cells #[.func (.func 15) #[] #[], .func (.func 16) #[] #[], .func (.func 13) #[] #[]] 31 (0, 0)) := blk_below (by (with_reducible repeat (first | refine blk_drewN ?_ _ | refine blk_drew ?_ | refine blk_alloc ?_ _)); exact BL.out) hb; clear BL; have BL := Lib.hid qb_; clear qb_; have hb2 : Below w.heap.size w _ := below_step (by with_reducible repeat first | exact HB.out | apply below_alloc | apply pw_below_drewN | apply below_drew1) hb; clear HB; have HB := Lib.hid hb2; clear hb2; have y1 : w4.cell? ⟨L, 1, none⟩ = some (.func (.func 16) #[] #[]) := (blk_cell BL.out 1).trans rfl; clear hb)
    | (go_at_call 12; with_reducible refine (cohousingref04_Same.calls k Bq bq u'' Bp bp u' true _ ?s1 Lq.out ?s2 Lp.out Eu.out).mono ?_; (case s1 => with_reducible repeat first | exact Rq.out | refine Kd.C_alloc ?_ _ | refine Kd.C_drewN ?_ _ | refine Kd.C_drew ?_); (case s2 => with_reducible repeat first | exact Rp.out | refine Kd.C_alloc ?_ _ | refine Kd.C_drewN ?_ _ | refine Kd.C_drew ?_); rintro e w5 ⟨rfl, m5, rfl⟩))
  clear Lu Ru Lp Rp Lq Rq
  rw [rounds_succ]
  go_wp2_with (first
    | (go_at_call 14; with_reducible refine (cohousinglaw04_done_Meet.calls k true A0 c0 l0 A1 c1 l1 m true _ ?s1 HC0.out ?s2 HC1.out Hm.out).mono ?_; (case s1 => with_reducible repeat first | exact (Kd.C_below HR0.out HB.out) | refine Kd.C_alloc ?_ _ | refine Kd.C_drewN ?_ _ | refine Kd.C_drew ?_); (case s2 => with_reducible repeat first | exact (Kd.C_below HR1.out HB.out) | refine Kd.C_alloc ?_ _ | refine Kd.C_drewN ?_ _ | refine Kd.C_drew ?_); rintro e w4 ⟨v, rfl, ho, hb⟩; obtain ⟨Bm, bm, rfl, hlm, hqm⟩ := Kd.R_reads ho; have Lm := Lib.hid hlm; have Rm := Lib.hid hqm; clear ho hlm hqm; have qRc : Kd.C k30 w4 Bc c.length c := Kd.C_below (by with_reducible repeat first | exact Rc.out | refine Kd.C_alloc ?_ _ | refine Kd.C_drewN ?_ _ | refine Kd.C_drew ?_) hb; clear Rc; have Rc := Lib.hid qRc; clear qRc; have qRd : Kd.C k30 w4 Bd d.length d := Kd.C_below (by with_reducible repeat first | exact Rd.out | refine Kd.C_alloc ?_ _ | refine Kd.C_drewN ?_ _ | refine Kd.C_drew ?_) hb; clear Rd; have Rd := Lib.hid qRd; clear qRd; have qb_ : w4.heap[L]? = some (.cells #[.func (.func 15) #[] #[], .func (.func 16) #[] #[], .func (.func 13) #[] #[]] 31 (0, 0)) := blk_below (by (with_reducible repeat (first | refine blk_drewN ?_ _ | refine blk_drew ?_ | refine blk_alloc ?_ _)); exact BL.out) hb; clear BL; have BL := Lib.hid qb_; clear qb_; have hb2 : Below w.heap.size w _ := below_step (by with_reducible repeat first | exact HB.out | apply below_alloc | apply pw_below_drewN | apply below_drew1) hb; clear HB; have HB := Lib.hid hb2; clear hb2; clear hb)
    | (go_at_call 14; with_reducible refine (cohousinglaw04_done_Meet.calls k true Bc bc c Bd bd d m' true _ ?s1 Lc.out ?s2 Ld.out Gm.out).mono ?_; (case s1 => with_reducible repeat first | exact Rc.out | refine Kd.C_alloc ?_ _ | refine Kd.C_drewN ?_ _ | refine Kd.C_drew ?_); (case s2 => with_reducible repeat first | exact Rd.out | refine Kd.C_alloc ?_ _ | refine Kd.C_drewN ?_ _ | refine Kd.C_drew ?_); rintro e w4 ⟨v, rfl, ho, hb⟩; obtain ⟨Bp, bp, rfl, hlp, hqp⟩ := Kd.R_reads ho; have Lp := Lib.hid hlp; have Rp := Lib.hid hqp; clear ho hlp hqp; have qRc : Kd.C k30 w4 Bc c.length c := Kd.C_below (by with_reducible repeat first | exact Rc.out | refine Kd.C_alloc ?_ _ | refine Kd.C_drewN ?_ _ | refine Kd.C_drew ?_) hb; clear Rc; have Rc := Lib.hid qRc; clear qRc; have qRd : Kd.C k30 w4 Bd d.length d := Kd.C_below (by with_reducible repeat first | exact Rd.out | refine Kd.C_alloc ?_ _ | refine Kd.C_drewN ?_ _ | refine Kd.C_drew ?_) hb; clear Rd; have Rd := Lib.hid qRd; clear qRd; have qRm : Kd.C k30 w4 Bm m.length m := Kd.C_below (by with_reducible repeat first | exact Rm.out | refine Kd.C_alloc ?_ _ | refine Kd.C_drewN ?_ _ | refine Kd.C_drew ?_) hb; clear Rm; have Rm := Lib.hid qRm; clear qRm; have qb_ : w4.heap[L]? = some (.cells #[.func (.func 15) #[] #[], .func (.func 16) #[] #[], .func (.func 13) #[] #[]] 31 (0, 0)) := blk_below (by (with_reducible repeat (first | refine blk_drewN ?_ _ | refine blk_drew ?_ | refine blk_alloc ?_ _)); exact BL.out) hb; clear BL; have BL := Lib.hid qb_; clear qb_; have hb2 : Below w.heap.size w _ := below_step (by with_reducible repeat first | exact HB.out | apply below_alloc | apply pw_below_drewN | apply below_drew1) hb; clear HB; have HB := Lib.hid hb2; clear hb2; clear hb)
    | (go_at_call 18; with_reducible refine (cohousingref04_Shift.calls k Bm bm m a2 m'' _ ?s1 Lm.out Jm.out).mono ?_; (case s1 => with_reducible repeat first | exact Rm.out | refine Kd.C_alloc ?_ _ | refine Kd.C_drewN ?_ _ | refine Kd.C_drew ?_); rintro e w4 ⟨v, rfl, ho, hb⟩; obtain ⟨Bq, bq, rfl, hlq, hqq⟩ := Kd.R_reads ho; have Lq := Lib.hid hlq; have Rq := Lib.hid hqq; clear ho hlq hqq; have qRc : Kd.C k30 w4 Bc c.length c := Kd.C_below (by with_reducible repeat first | exact Rc.out | refine Kd.C_alloc ?_ _ | refine Kd.C_drewN ?_ _ | refine Kd.C_drew ?_) hb; clear Rc; have Rc := Lib.hid qRc; clear qRc; have qRd : Kd.C k30 w4 Bd d.length d := Kd.C_below (by with_reducible repeat first | exact Rd.out | refine Kd.C_alloc ?_ _ | refine Kd.C_drewN ?_ _ | refine Kd.C_drew ?_) hb; clear Rd; have Rd := Lib.hid qRd; clear qRd; have qRp : Kd.C k30 w4 Bp m'.length m' := Kd.C_below (by with_reducible repeat first | exact Rp.out | refine Kd.C_alloc ?_ _ | refine Kd.C_drewN ?_ _ | refine Kd.C_drew ?_) hb; clear Rp; have Rp := Lib.hid qRp; clear qRp; have qb_ : w4.heap[L]? = some (.cells #[.func (.func 15) #[] #[], .func (.func 16) #[] #[], .func (.func 13) #[] #[]] 31 (0, 0)) := blk_below (by (with_reducible repeat (first | refine blk_drewN ?_ _ | refine blk_drew ?_ | refine blk_alloc ?_ _)); exact BL.out) hb; clear BL; have BL := Lib.hid qb_; clear qb_; have hb2 : Below w.heap.size w _ := below_step (by with_reducible repeat first | exact HB.out | apply below_alloc | apply pw_below_drewN | apply below_drew1) hb; clear HB; have HB := Lib.hid hb2; clear hb2; have y2 : w4.cell? ⟨L, 2, none⟩ = some (.func (.func 13) #[] #[]) := (blk_cell BL.out 2).trans rfl; clear hb)
    | (go_at_call 12; with_reducible refine (cohousingref04_Same.calls k Bq bq m'' Bp bp m' true _ ?s1 Lq.out ?s2 Lp.out Em.out).mono ?_; (case s1 => with_reducible repeat first | exact Rq.out | refine Kd.C_alloc ?_ _ | refine Kd.C_drewN ?_ _ | refine Kd.C_drew ?_); (case s2 => with_reducible repeat first | exact Rp.out | refine Kd.C_alloc ?_ _ | refine Kd.C_drewN ?_ _ | refine Kd.C_drew ?_); rintro e w5 ⟨rfl, m5, rfl⟩))
  clear Lm Rm Lp Rp Lq Rq
  rw [rounds_succ]
  go_wp2_with (first
    | (go_at_call 14; with_reducible refine (cohousinglaw04_done_Without.calls k true A0 c0 l0 A1 c1 l1 x true _ ?s1 HC0.out ?s2 HC1.out Hx.out).mono ?_; (case s1 => with_reducible repeat first | exact (Kd.C_below HR0.out HB.out) | refine Kd.C_alloc ?_ _ | refine Kd.C_drewN ?_ _ | refine Kd.C_drew ?_); (case s2 => with_reducible repeat first | exact (Kd.C_below HR1.out HB.out) | refine Kd.C_alloc ?_ _ | refine Kd.C_drewN ?_ _ | refine Kd.C_drew ?_); rintro e w4 ⟨v, rfl, ho, hb⟩; obtain ⟨Bx, bx, rfl, hlx, hqx⟩ := Kd.R_reads ho; have Lx := Lib.hid hlx; have Rx := Lib.hid hqx; clear ho hlx hqx; have qRc : Kd.C k30 w4 Bc c.length c := Kd.C_below (by with_reducible repeat first | exact Rc.out | refine Kd.C_alloc ?_ _ | refine Kd.C_drewN ?_ _ | refine Kd.C_drew ?_) hb; clear Rc; have Rc := Lib.hid qRc; clear qRc; have qRd : Kd.C k30 w4 Bd d.length d := Kd.C_below (by with_reducible repeat first | exact Rd.out | refine Kd.C_alloc ?_ _ | refine Kd.C_drewN ?_ _ | refine Kd.C_drew ?_) hb; clear Rd; have Rd := Lib.hid qRd; clear qRd; have qb_ : w4.heap[L]? = some (.cells #[.func (.func 15) #[] #[], .func (.func 16) #[] #[], .func (.func 13) #[] #[]] 31 (0, 0)) := blk_below (by (with_reducible repeat (first | refine blk_drewN ?_ _ | refine blk_drew ?_ | refine blk_alloc ?_ _)); exact BL.out) hb; clear BL; have BL := Lib.hid qb_; clear qb_; have hb2 : Below w.heap.size w _ := below_step (by with_reducible repeat first | exact HB.out | apply below_alloc | apply pw_below_drewN | apply below_drew1) hb; clear HB; have HB := Lib.hid hb2; clear hb2; clear hb)
    | (go_at_call 14; with_reducible refine (cohousinglaw04_done_Without.calls k true Bc bc c Bd bd d x' true _ ?s1 Lc.out ?s2 Ld.out Gx.out).mono ?_; (case s1 => with_reducible repeat first | exact Rc.out | refine Kd.C_alloc ?_ _ | refine Kd.C_drewN ?_ _ | refine Kd.C_drew ?_); (case s2 => with_reducible repeat first | exact Rd.out | refine Kd.C_alloc ?_ _ | refine Kd.C_drewN ?_ _ | refine Kd.C_drew ?_); rintro e w4 ⟨v, rfl, ho, hb⟩; obtain ⟨Bp, bp, rfl, hlp, hqp⟩ := Kd.R_reads ho; have Lp := Lib.hid hlp; have Rp := Lib.hid hqp; clear ho hlp hqp; have qRc : Kd.C k30 w4 Bc c.length c := Kd.C_below (by with_reducible repeat first | exact Rc.out | refine Kd.C_alloc ?_ _ | refine Kd.C_drewN ?_ _ | refine Kd.C_drew ?_) hb; clear Rc; have Rc := Lib.hid qRc; clear qRc; have qRd : Kd.C k30 w4 Bd d.length d := Kd.C_below (by with_reducible repeat first | exact Rd.out | refine Kd.C_alloc ?_ _ | refine Kd.C_drewN ?_ _ | refine Kd.C_drew ?_) hb; clear Rd; have Rd := Lib.hid qRd; clear qRd; have qRx : Kd.C k30 w4 Bx x.length x := Kd.C_below (by with_reducible repeat first | exact Rx.out | refine Kd.C_alloc ?_ _ | refine Kd.C_drewN ?_ _ | refine Kd.C_drew ?_) hb; clear Rx; have Rx := Lib.hid qRx; clear qRx; have qb_ : w4.heap[L]? = some (.cells #[.func (.func 15) #[] #[], .func (.func 16) #[] #[], .func (.func 13) #[] #[]] 31 (0, 0)) := blk_below (by (with_reducible repeat (first | refine blk_drewN ?_ _ | refine blk_drew ?_ | refine blk_alloc ?_ _)); exact BL.out) hb; clear BL; have BL := Lib.hid qb_; clear qb_; have hb2 : Below w.heap.size w _ := below_step (by with_reducible repeat first | exact HB.out | apply below_alloc | apply pw_below_drewN | apply below_drew1) hb; clear HB; have HB := Lib.hid hb2; clear hb2; clear hb)
    | (go_at_call 18; with_reducible refine (cohousingref04_Shift.calls k Bx bx x a2 x'' _ ?s1 Lx.out Jx.out).mono ?_; (case s1 => with_reducible repeat first | exact Rx.out | refine Kd.C_alloc ?_ _ | refine Kd.C_drewN ?_ _ | refine Kd.C_drew ?_); rintro e w4 ⟨v, rfl, ho, hb⟩; obtain ⟨Bq, bq, rfl, hlq, hqq⟩ := Kd.R_reads ho; have Lq := Lib.hid hlq; have Rq := Lib.hid hqq; clear ho hlq hqq; have qRc : Kd.C k30 w4 Bc c.length c := Kd.C_below (by with_reducible repeat first | exact Rc.out | refine Kd.C_alloc ?_ _ | refine Kd.C_drewN ?_ _ | refine Kd.C_drew ?_) hb; clear Rc; have Rc := Lib.hid qRc; clear qRc; have qRd : Kd.C k30 w4 Bd d.length d := Kd.C_below (by with_reducible repeat first | exact Rd.out | refine Kd.C_alloc ?_ _ | refine Kd.C_drewN ?_ _ | refine Kd.C_drew ?_) hb; clear Rd; have Rd := Lib.hid qRd; clear qRd; have qRp : Kd.C k30 w4 Bp x'.length x' := Kd.C_below (by with_reducible repeat first | exact Rp.out | refine Kd.C_alloc ?_ _ | refine Kd.C_drewN ?_ _ | refine Kd.C_drew ?_) hb; clear Rp; have Rp := Lib.hid qRp; clear qRp; have qb_ : w4.heap[L]? = some (.cells #[.func (.func 15) #[] #[], .func (.func 16) #[] #[], .func (.func 13) #[] #[]] 31 (0, 0)) := blk_below (by (with_reducible repeat (first | refine blk_drewN ?_ _ | refine blk_drew ?_ | refine blk_alloc ?_ _)); exact BL.out) hb; clear BL; have BL := Lib.hid qb_; clear qb_; have hb2 : Below w.heap.size w _ := below_step (by with_reducible repeat first | exact HB.out | apply below_alloc | apply pw_below_drewN | apply below_drew1) hb; clear HB; have HB := Lib.hid hb2; clear hb2; clear hb)
    | (go_at_call 12; with_reducible refine (cohousingref04_Same.calls k Bq bq x'' Bp bp x' true _ ?s1 Lq.out ?s2 Lp.out Ex.out).mono ?_; (case s1 => with_reducible repeat first | exact Rq.out | refine Kd.C_alloc ?_ _ | refine Kd.C_drewN ?_ _ | refine Kd.C_drew ?_); (case s2 => with_reducible repeat first | exact Rp.out | refine Kd.C_alloc ?_ _ | refine Kd.C_drewN ?_ _ | refine Kd.C_drew ?_); rintro e w5 ⟨rfl, m5, rfl⟩))
  clear Lx Rx Lp Rp Lq Rq
  rw [rounds_succ]
  go_wp2_with fail
  go_ret
  exact ⟨rfl, by with_reducible repeat first | exact HB.out | apply below_alloc | apply pw_below_drewN | apply below_drew1⟩
/-- Union, intersection and difference of two sets and of the moved ones. -/
def shiftsF (k : Nat) (l0 l1 c d : List S30) (a2 : Int) : Option Bool := (cohousinglaw04_done_Union.f k true l0 l1).bind fun u => (cohousinglaw04_done_Union.f k true c d).bind fun up => (cohousingref04_Shift.f k u.1 a2).bind fun uq => (cohousingref04_Same.f k uq up.1).bind fun us => (cohousinglaw04_done_Meet.f k true l0 l1).bind fun m => (cohousinglaw04_done_Meet.f k true c d).bind fun mp => (cohousingref04_Shift.f k m.1 a2).bind fun mq => (cohousingref04_Same.f k mq mp.1).bind fun ms => (cohousinglaw04_done_Without.f k true l0 l1).bind fun x => (cohousinglaw04_done_Without.f k true c d).bind fun xp => (cohousingref04_Shift.f k x.1 a2).bind fun xq => (cohousingref04_Same.f k xq xp.1).bind fun xs => if (u.2 = true ∧ up.2 = true ∧ us = true) ∧ (m.2 = true ∧ mp.2 = true ∧ ms = true) ∧ x.2 = true ∧ xp.2 = true ∧ xs = true then some true else none
def cohousinglaw04_SpanShifts.f (k : Nat) (l0 l1 : List S30) (a2 : Int) : Option Bool := (cohousinglaw04_head.f k).bind fun t => if t = true then ((span_Valid.f k l0).bind fun v0 => if v0 = true then ((span_Valid.f k l1).bind fun v1 => if v1 = true then (if a2 < -36524 then some true else if a2 > 36524 then some true else if (400 : Int) < (l0.length : Int) then some true else if (400 : Int) < (l1.length : Int) then some true else
  (cohousingref04_Shift.f k l0 a2).bind fun c => (cohousingref04_Shift.f k l1 a2).bind fun d => (span_Valid.f k c).bind fun vc => if vc = true then ((span_Valid.f k d).bind fun vd => if vd = true then shiftsF k l0 l1 c d a2 else some true) else some true) else some true) else some true) else none
theorem cohousinglaw04_SpanShifts.calls (k : Nat) (A0 : Option Addr) (c0 : Nat) (l0 : List S30) (A1 : Option Addr) (c1 : Nat) (l1 : List S30) (a2 : Int) (r : Bool) (w : World) (hr0 : Kd.C k30 w A0 l0.length l0) (hc0 : l0.length ≤ c0) (hr1 : Kd.C k30 w A1 l1.length l1) (hc1 : l1.length ≤ c1) (h : cohousinglaw04_SpanShifts.f k l0 l1 a2 = some r) :
    Calls Try.prog 6 #[.slice A0 l0.length c0, .slice A1 l1.length c1, .int .i64 a2] w fun e w' => e = .returned (.bool r) ∧ Below w.heap.size w w' := by
  unfold cohousinglaw04_SpanShifts.f at h
  obtain ⟨t, hh, h⟩ := Option.bind_eq_some_iff.mp h
  cases t with
  | false => rw [if_neg (by decide)] at h; cases h
  | true =>
  rw [if_pos rfl] at h
  obtain ⟨v0, hv0, h⟩ := Option.bind_eq_some_iff.mp h
  cases v0 with
  | false =>
    rw [if_neg (by decide)] at h
    obtain rfl := Option.some.inj h
    exact shifts_bad0 k A0 A1 c0 c1 l0 l1 a2 w hr0 hc0 hr1 hc1 hh hv0
  | true =>
  rw [if_pos rfl] at h
  obtain ⟨v1, hv1, h⟩ := Option.bind_eq_some_iff.mp h
  cases v1 with
  | false =>
    rw [if_neg (by decide)] at h
    obtain rfl := Option.some.inj h
    exact shifts_bad1 k A0 A1 c0 c1 l0 l1 a2 w hr0 hc0 hr1 hc1 hh hv0 hv1
  | true =>
  rw [if_pos rfl] at h
  by_cases qa : a2 < -36524
  · rw [if_pos qa] at h
    obtain rfl := Option.some.inj h
    exact shifts_bad2 k A0 A1 c0 c1 l0 l1 a2 w hr0 hc0 hr1 hc1 hh hv0 hv1 qa
  rw [if_neg qa] at h
  by_cases qb : a2 > 36524
  · rw [if_pos qb] at h
    obtain rfl := Option.some.inj h
    exact shifts_bad3 k A0 A1 c0 c1 l0 l1 a2 w hr0 hc0 hr1 hc1 hh hv0 hv1 qa qb
  rw [if_neg qb] at h
  by_cases q0 : (400 : Int) < (l0.length : Int)
  · rw [if_pos q0] at h
    obtain rfl := Option.some.inj h
    exact shifts_bad4 k A0 A1 c0 c1 l0 l1 a2 w hr0 hc0 hr1 hc1 hh hv0 hv1 qa qb q0
  rw [if_neg q0] at h
  by_cases q1 : (400 : Int) < (l1.length : Int)
  · rw [if_pos q1] at h
    obtain rfl := Option.some.inj h
    exact shifts_bad5 k A0 A1 c0 c1 l0 l1 a2 w hr0 hc0 hr1 hc1 hh hv0 hv1 qa qb q0 q1
  rw [if_neg q1] at h
  obtain ⟨c, hs0, h⟩ := Option.bind_eq_some_iff.mp h
  obtain ⟨d, hs1, h⟩ := Option.bind_eq_some_iff.mp h
  obtain ⟨vc, hvc, h⟩ := Option.bind_eq_some_iff.mp h
  cases vc with
  | false =>
    rw [if_neg (by decide)] at h
    obtain rfl := Option.some.inj h
    exact shifts_bad6 k A0 A1 c0 c1 l0 l1 a2 c d w hr0 hc0 hr1 hc1 hh hv0 hv1 qa qb q0 q1 hs0 hs1 hvc
  | true =>
  rw [if_pos rfl] at h
  obtain ⟨vd, hvd, h⟩ := Option.bind_eq_some_iff.mp h
  cases vd with
  | false =>
    rw [if_neg (by decide)] at h
    obtain rfl := Option.some.inj h
    exact shifts_bad7 k A0 A1 c0 c1 l0 l1 a2 c d w hr0 hc0 hr1 hc1 hh hv0 hv1 qa qb q0 q1 hs0 hs1 hvc hvd
  | true =>
  rw [if_pos rfl] at h
  unfold shiftsF at h
  obtain ⟨⟨u, bu⟩, hu, h⟩ := Option.bind_eq_some_iff.mp h
  obtain ⟨⟨u', bu'⟩, gu, h⟩ := Option.bind_eq_some_iff.mp h
  obtain ⟨u'', ju, h⟩ := Option.bind_eq_some_iff.mp h
  obtain ⟨su, eu, h⟩ := Option.bind_eq_some_iff.mp h
  obtain ⟨⟨m, bm⟩, hm, h⟩ := Option.bind_eq_some_iff.mp h
  obtain ⟨⟨m', bm'⟩, gm, h⟩ := Option.bind_eq_some_iff.mp h
  obtain ⟨m'', jm, h⟩ := Option.bind_eq_some_iff.mp h
  obtain ⟨sm, em, h⟩ := Option.bind_eq_some_iff.mp h
  obtain ⟨⟨x, bx⟩, hx, h⟩ := Option.bind_eq_some_iff.mp h
  obtain ⟨⟨x', bx'⟩, gx, h⟩ := Option.bind_eq_some_iff.mp h
  obtain ⟨x'', jx, h⟩ := Option.bind_eq_some_iff.mp h
  obtain ⟨sx, ex, h⟩ := Option.bind_eq_some_iff.mp h
  split at h
  case isFalse => cases h
  rename_i hc
  obtain rfl := Option.some.inj h
  obtain ⟨⟨rfl, rfl, rfl⟩, ⟨rfl, rfl, rfl⟩, rfl, rfl, rfl⟩ := hc
  exact shifts_main k A0 A1 c0 c1 l0 l1 a2 c d u u' u'' m m' m'' x x' x'' w hr0 hc0 hr1 hc1 hh hv0 hv1 qa qb q0 q1 hs0 hs1 hvc hvd hu gu ju eu hm gm jm em hx gx jx ex
end

end Go.Proofs.Ytbfgblfhonpgaaa.X
