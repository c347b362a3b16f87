-- Written by a program of mine (wip/tools/xprint.py) over the kit's print.py: printed functions and hand-proved ones side by side.
import Derived.Test.YtbfgblfhonpgaaaXx0
import Derived.Test.YtbfgblfhonpgaaaXx3
import Derived.Test.YtbfgblfhonpgaaaXx7
import Derived.Test.YtbfgblfhonpgaaaXx8
import Derived.Test.YtbfgblfhonpgaaaXx16
namespace Go.Proofs.Ytbfgblfhonpgaaa.X
open Go.RowKit Go.Proofs.YtbfgblfhonpgaaaW.PrintWords Go.Proofs.YtbfgblfhonpgaaaW.PrintLast Go.Proofs.YtbfgblfhonpgaaaW.PrintMore
attribute [local go_sem] max2_int min2_int max_two min_two max_three min_three max_four min_four   -- for this text's walks alone
set_option linter.unusedVariables false
set_option linter.unusedSimpArgs false

/-! ### cohousinglaw04_SpanCounts: function 5 -/
-- by hand: cohousing/cohousinglaw04.SpanCounts
section
open Go.RowKit Go.Proofs.YtbfgblfhonpgaaaW.PrintWords Go.Proofs.YtbfgblfhonpgaaaW.PrintLast Go.Proofs.YtbfgblfhonpgaaaW.PrintMore
open Go.Sort (grow alloc_eq_grow grow_grow)
set_option maxHeartbeats 8000000 in
set_option maxRecDepth 100000 in
theorem counts_bad0 (k : Nat) (A0 A1 : Option Addr) (c0 c1 : Nat) (l0 l1 : List S30) (w : World) (hr0 : Kd.C k30 w A0 l0.length l0) (hc0 : l0.length ≤ c0) (hr1 : Kd.C k30 w A1 l1.length l1) (hc1 : l1.length ≤ c1) (hh : cohousinglaw04_head.f k = some true) (hv0 : span_Valid.f k l0 = some false) :
    Calls Try.prog 5 #[.slice A0 l0.length c0, .slice A1 l1.length c1] w fun e w' => e = .returned (.bool true) ∧ Below w.heap.size w w' := by
  have HR0 := Lib.hid hr0
  have HR1 := Lib.hid hr1
  have HC0 := Lib.hid hc0
  have HC1 := Lib.hid hc1
  have HH := Lib.hid hh
  have HV0 := Lib.hid hv0
  have HB := Lib.hid (Below.refl w.heap.size w)
  clear hr0 hr1 hc0 hc1 hh hv0
  go_enter Try.func5, Try.ntmps5
  go_wp2_with (first
    | (go_at_call 9; with_reducible refine (cohousinglaw04_head.calls k true _ HH.out).mono ?_; rintro e w1 ⟨rfl, hb⟩; have hb2 : Below w.heap.size w _ := below_step (by with_reducible repeat first | exact HB.out | apply below_alloc | apply pw_below_drewN | apply below_drew1) hb; clear HB; have HB := Lib.hid hb2; clear hb2; clear hb)
    | (go_at_call 10; with_reducible refine (span_Valid.calls k A0 c0 l0 false _ ?s1 HC0.out HV0.out).mono ?_; (case s1 => with_reducible repeat first | exact (Kd.C_below HR0.out HB.out) | refine Kd.C_alloc ?_ _ | refine Kd.C_drewN ?_ _ | refine Kd.C_drew ?_); rintro e w1 ⟨rfl, hb⟩; have hb2 : Below w.heap.size w _ := below_step (by with_reducible repeat first | exact HB.out | apply below_alloc | apply pw_below_drewN | apply below_drew1) hb; clear HB; have HB := Lib.hid hb2; clear hb2; clear hb))
  go_ret
  exact ⟨rfl, by with_reducible repeat first | exact HB.out | apply below_alloc | apply pw_below_drewN | apply below_drew1⟩
set_option maxHeartbeats 8000000 in
set_option maxRecDepth 100000 in
theorem counts_bad1 (k : Nat) (A0 A1 : Option Addr) (c0 c1 : Nat) (l0 l1 : List S30) (w : World) (hr0 : Kd.C k30 w A0 l0.length l0) (hc0 : l0.length ≤ c0) (hr1 : Kd.C k30 w A1 l1.length l1) (hc1 : l1.length ≤ c1) (hh : cohousinglaw04_head.f k = some true) (hv0 : span_Valid.f k l0 = some true) (hv1 : span_Valid.f k l1 = some false) :
    Calls Try.prog 5 #[.slice A0 l0.length c0, .slice A1 l1.length c1] w fun e w' => e = .returned (.bool true) ∧ Below w.heap.size w w' := by
  have HR0 := Lib.hid hr0
  have HR1 := Lib.hid hr1
  have HC0 := Lib.hid hc0
  have HC1 := Lib.hid hc1
  have HH := Lib.hid hh
  have HV0 := Lib.hid hv0
  have HV1 := Lib.hid hv1
  have HB := Lib.hid (Below.refl w.heap.size w)
  clear hr0 hr1 hc0 hc1 hh hv0 hv1
  go_enter Try.func5, Try.ntmps5
  go_wp2_with (first
    | (go_at_call 9; with_reducible refine (cohousinglaw04_head.calls k true _ HH.out).mono ?_; rintro e w1 ⟨rfl, hb⟩; have hb2 : Below w.heap.size w _ := below_step (by with_reducible repeat first | exact HB.out | apply below_alloc | apply pw_below_drewN | apply below_drew1) hb; clear HB; have HB := Lib.hid hb2; clear hb2; clear hb)
    | (go_at_call 10; with_reducible refine (span_Valid.calls k A0 c0 l0 true _ ?s1 HC0.out HV0.out).mono ?_; (case s1 => with_reducible repeat first | exact (Kd.C_below HR0.out HB.out) | refine Kd.C_alloc ?_ _ | refine Kd.C_drewN ?_ _ | refine Kd.C_drew ?_); rintro e w1 ⟨rfl, hb⟩; have hb2 : Below w.heap.size w _ := below_step (by with_reducible repeat first | exact HB.out | apply below_alloc | apply pw_below_drewN | apply below_drew1) hb; clear HB; have HB := Lib.hid hb2; clear hb2; clear hb)
    | (go_at_call 10; with_reducible refine (span_Valid.calls k A1 c1 l1 false _ ?s1 HC1.out HV1.out).mono ?_; (case s1 => with_reducible repeat first | exact (Kd.C_below HR1.out HB.out) | refine Kd.C_alloc ?_ _ | refine Kd.C_drewN ?_ _ | refine Kd.C_drew ?_); rintro e w1 ⟨rfl, hb⟩; have hb2 : Below w.heap.size w _ := below_step (by with_reducible repeat first | exact HB.out | apply below_alloc | apply pw_below_drewN | apply below_drew1) hb; clear HB; have HB := Lib.hid hb2; clear hb2; clear hb))
  go_ret
  exact ⟨rfl, by with_reducible repeat first | exact HB.out | apply below_alloc | apply pw_below_drewN | apply below_drew1⟩
set_option maxHeartbeats 8000000 in
set_option maxRecDepth 100000 in
theorem counts_bad2 (k : Nat) (A0 A1 : Option Addr) (c0 c1 : Nat) (l0 l1 : List S30) (w : World) (hr0 : Kd.C k30 w A0 l0.length l0) (hc0 : l0.length ≤ c0) (hr1 : Kd.C k30 w A1 l1.length l1) (hc1 : l1.length ≤ c1) (hh : cohousinglaw04_head.f k = some true) (hv0 : span_Valid.f k l0 = some true) (hv1 : span_Valid.f k l1 = some true) (q0 : (400 : Int) < (l0.length : Int)) :
    Calls Try.prog 5 #[.slice A0 l0.length c0, .slice A1 l1.length c1] w fun e w' => e = .returned (.bool true) ∧ Below w.heap.size w w' := by
  have HR0 := Lib.hid hr0
  have HR1 := Lib.hid hr1
  have HC0 := Lib.hid hc0
  have HC1 := Lib.hid hc1
  have HH := Lib.hid hh
  have HV0 := Lib.hid hv0
  have HV1 := Lib.hid hv1
  have HB := Lib.hid (Below.refl w.heap.size w)
  clear hr0 hr1 hc0 hc1 hh hv0 hv1
  have p0 := decide_eq_true q0
  go_enter Try.func5, Try.ntmps5
  go_wp2_with (first
    | (go_at_call 9; with_reducible refine (cohousinglaw04_head.calls k true _ HH.out).mono ?_; rintro e w1 ⟨rfl, hb⟩; have hb2 : Below w.heap.size w _ := below_step (by with_reducible repeat first | exact HB.out | apply below_alloc | apply pw_below_drewN | apply below_drew1) hb; clear HB; have HB := Lib.hid hb2; clear hb2; clear hb)
    | (go_at_call 10; with_reducible refine (span_Valid.calls k A0 c0 l0 true _ ?s1 HC0.out HV0.out).mono ?_; (case s1 => with_reducible repeat first | exact (Kd.C_below HR0.out HB.out) | refine Kd.C_alloc ?_ _ | refine Kd.C_drewN ?_ _ | refine Kd.C_drew ?_); rintro e w1 ⟨rfl, hb⟩; have hb2 : Below w.heap.size w _ := below_step (by with_reducible repeat first | exact HB.out | apply below_alloc | apply pw_below_drewN | apply below_drew1) hb; clear HB; have HB := Lib.hid hb2; clear hb2; clear hb)
    | (go_at_call 10; with_reducible refine (span_Valid.calls k A1 c1 l1 true _ ?s1 HC1.out HV1.out).mono ?_; (case s1 => with_reducible repeat first | exact (Kd.C_below HR1.out HB.out) | refine Kd.C_alloc ?_ _ | refine Kd.C_drewN ?_ _ | refine Kd.C_drew ?_); rintro e w1 ⟨rfl, hb⟩; have hb2 : Below w.heap.size w _ := below_step (by with_reducible repeat first | exact HB.out | apply below_alloc | apply pw_below_drewN | apply below_drew1) hb; clear HB; have HB := Lib.hid hb2; clear hb2; clear hb))
  go_ret
  exact ⟨rfl, by with_reducible repeat first | exact HB.out | apply below_alloc | apply pw_below_drewN | apply below_drew1⟩
set_option maxHeartbeats 8000000 in
set_option maxRecDepth 100000 in
theorem counts_bad3 (k : Nat) (A0 A1 : Option Addr) (c0 c1 : Nat) (l0 l1 : List S30) (w : World) (hr0 : Kd.C k30 w A0 l0.length l0) (hc0 : l0.length ≤ c0) (hr1 : Kd.C k30 w A1 l1.length l1) (hc1 : l1.length ≤ c1) (hh : cohousinglaw04_head.f k = some true) (hv0 : span_Valid.f k l0 = some true) (hv1 : span_Valid.f k l1 = some true) (q0 : ¬ (400 : Int) < (l0.length : Int)) (q1 : (400 : Int) < (l1.length : Int)) :
    Calls Try.prog 5 #[.slice A0 l0.length c0, .slice A1 l1.length c1] w fun e w' => e = .returned (.bool true) ∧ Below w.heap.size w w' := by
  have HR0 := Lib.hid hr0
  have HR1 := Lib.hid hr1
  have HC0 := Lib.hid hc0
  have HC1 := Lib.hid hc1
  have HH := Lib.hid hh
  have HV0 := Lib.hid hv0
  have HV1 := Lib.hid hv1
  have HB := Lib.hid (Below.refl w.heap.size w)
  clear hr0 hr1 hc0 hc1 hh hv0 hv1
  have p0 := decide_eq_false q0
  have p1 := decide_eq_true q1
  go_enter Try.func5, Try.ntmps5
  go_wp2_with (first
    | (go_at_call 9; with_reducible refine (cohousinglaw04_head.calls k true _ HH.out).mono ?_; rintro e w1 ⟨rfl, hb⟩; have hb2 : Below w.heap.size w _ := below_step (by with_reducible repeat first | exact HB.out | apply below_alloc | apply pw_below_drewN | apply below_drew1) hb; clear HB; have HB := Lib.hid hb2; clear hb2; clear hb)
    | (go_at_call 10; with_reducible refine (span_Valid.calls k A0 c0 l0 true _ ?s1 HC0.out HV0.out).mono ?_; (case s1 => with_reducible repeat first | exact (Kd.C_below HR0.out HB.out) | refine Kd.C_alloc ?_ _ | refine Kd.C_drewN ?_ _ | refine Kd.C_drew ?_); rintro e w1 ⟨rfl, hb⟩; have hb2 : Below w.heap.size w _ := below_step (by with_reducible repeat first | exact HB.out | apply below_alloc | apply pw_below_drewN | apply below_drew1) hb; clear HB; have HB := Lib.hid hb2; clear hb2; clear hb)
    | (go_at_call 10; with_reducible refine (span_Valid.calls k A1 c1 l1 true _ ?s1 HC1.out HV1.out).mono ?_; (case s1 => with_reducible repeat first | exact (Kd.C_below HR1.out HB.out) | refine Kd.C_alloc ?_ _ | refine Kd.C_drewN ?_ _ | refine Kd.C_drew ?_); rintro e w1 ⟨rfl, hb⟩; have hb2 : Below w.heap.size w _ := below_step (by with_reducible repeat first | exact HB.out | apply below_alloc | apply pw_below_drewN | apply below_drew1) hb; clear HB; have HB := Lib.hid hb2; clear hb2; clear hb))
  go_ret
  exact ⟨rfl, by with_reducible repeat first | exact HB.out | apply below_alloc | apply pw_below_drewN | apply below_drew1⟩
set_option maxHeartbeats 8000000 in
set_option maxRecDepth 100000 in
theorem counts_main (k : Nat) (A0 A1 : Option Addr) (c0 c1 : Nat) (l0 l1 : List S30) (u m x : List S30) (n0 n1 n2 n3 n4 : Int) (w : World) (hr0 : Kd.C k30 w A0 l0.length l0) (hc0 : l0.length ≤ c0) (hr1 : Kd.C k30 w A1 l1.length l1) (hc1 : l1.length ≤ c1)
    (hh : cohousinglaw04_head.f k = some true) (hv0 : span_Valid.f k l0 = some true) (hv1 : span_Valid.f k l1 = some true) (q0 : ¬ (400 : Int) < (l0.length : Int)) (q1 : ¬ (400 : Int) < (l1.length : Int))
    (hu : cohousinglaw04_done_Union.f k true l0 l1 = some (u, true)) (hm : cohousinglaw04_done_Meet.f k true l0 l1 = some (m, true)) (hx : cohousinglaw04_done_Without.f k true l0 l1 = some (x, true))
    (e0 : span_Count.f k l0 = some (n0, 0)) (e1 : span_Count.f k l1 = some (n1, 0)) (e2 : span_Count.f k u = some (n2, 0)) (e3 : span_Count.f k m = some (n3, 0)) (e4 : span_Count.f k x = some (n4, 0))
    (g0 : ¬ n0 < (l0.length : Int)) (g1 : ¬ n1 < (l1.length : Int)) (g2 : ¬ n2 < (u.length : Int)) (g3 : ¬ n3 < (m.length : Int)) (g4 : ¬ n4 < (x.length : Int))
    (s1 : wrap64 (n0 + n1) = wrap64 (n2 + n3)) (s2 : wrap64 (n4 + n3) = n0) :
    Calls Try.prog 5 #[.slice A0 l0.length c0, .slice A1 l1.length c1] w fun e w' => e = .returned (.bool true) ∧ Below w.heap.size w w' := by
  have HR0 := Lib.hid hr0
  have HR1 := Lib.hid hr1
  have HC0 := Lib.hid hc0
  have HC1 := Lib.hid hc1
  have HH := Lib.hid hh
  have HV0 := Lib.hid hv0
  have HV1 := Lib.hid hv1
  have HU := Lib.hid hu
  have HM := Lib.hid hm
  have HX := Lib.hid hx
  have E0 := Lib.hid e0
  have E1 := Lib.hid e1
  have E2 := Lib.hid e2
  have E3 := Lib.hid e3
  have E4 := Lib.hid e4
  have HB := Lib.hid (Below.refl w.heap.size w)
  clear hr0 hr1 hc0 hc1 hh hv0 hv1 hu hm hx e0 e1 e2 e3 e4
  go_enter Try.func5, Try.ntmps5
  go_upto_region 9 with (first
    | (go_at_call 9; with_reducible refine (cohousinglaw04_head.calls k true _ HH.out).mono ?_; rintro e w1 ⟨rfl, hb⟩; have hb2 : Below w.heap.size w _ := below_step (by with_reducible repeat first | exact HB.out | apply below_alloc | apply pw_below_drewN | apply below_drew1) hb; clear HB; have HB := Lib.hid hb2; clear hb2; clear hb)
    | (go_at_call 10; with_reducible refine (span_Valid.calls k A0 c0 l0 true _ ?s1 HC0.out HV0.out).mono ?_; (case s1 => with_reducible repeat first | exact (Kd.C_below HR0.out HB.out) | refine Kd.C_alloc ?_ _ | refine Kd.C_drewN ?_ _ | refine Kd.C_drew ?_); rintro e w1 ⟨rfl, hb⟩; have hb2 : Below w.heap.size w _ := below_step (by with_reducible repeat first | exact HB.out | apply below_alloc | apply pw_below_drewN | apply below_drew1) hb; clear HB; have HB := Lib.hid hb2; clear hb2; clear hb)
    | (go_at_call 10; with_reducible refine (span_Valid.calls k A1 c1 l1 true _ ?s1 HC1.out HV1.out).mono ?_; (case s1 => with_reducible repeat first | exact (Kd.C_below HR1.out HB.out) | refine Kd.C_alloc ?_ _ | refine Kd.C_drewN ?_ _ | refine Kd.C_drew ?_); rintro e w1 ⟨rfl, hb⟩; have hb2 : Below w.heap.size w _ := below_step (by with_reducible repeat first | exact HB.out | apply below_alloc | apply pw_below_drewN | apply below_drew1) hb; clear HB; have HB := Lib.hid hb2; clear hb2; clear hb)
    | (go_at_call 14; with_reducible refine (cohousinglaw04_done_Union.calls k true A0 c0 l0 A1 c1 l1 u true _ ?s1 HC0.out ?s2 HC1.out HU.out).mono ?_; (case s1 => with_reducible repeat first | exact (Kd.C_below HR0.out HB.out) | refine Kd.C_alloc ?_ _ | refine Kd.C_drewN ?_ _ | refine Kd.C_drew ?_); (case s2 => with_reducible repeat first | exact (Kd.C_below HR1.out HB.out) | refine Kd.C_alloc ?_ _ | refine Kd.C_drewN ?_ _ | refine Kd.C_drew ?_); rintro e w2 ⟨v, rfl, ho, hb⟩; obtain ⟨Bu, bu, rfl, hlu, hqu⟩ := Kd.R_reads ho; have Lu := Lib.hid hlu; have Ru := Lib.hid hqu; clear ho hlu hqu; have hb2 : Below w.heap.size w _ := below_step (by with_reducible repeat first | exact HB.out | apply below_alloc | apply pw_below_drewN | apply below_drew1) hb; clear HB; have HB := Lib.hid hb2; clear hb2; clear hb)
    | (go_at_call 14; with_reducible refine (cohousinglaw04_done_Meet.calls k true A0 c0 l0 A1 c1 l1 m true _ ?s1 HC0.out ?s2 HC1.out HM.out).mono ?_; (case s1 => with_reducible repeat first | exact (Kd.C_below HR0.out HB.out) | refine Kd.C_alloc ?_ _ | refine Kd.C_drewN ?_ _ | refine Kd.C_drew ?_); (case s2 => with_reducible repeat first | exact (Kd.C_below HR1.out HB.out) | refine Kd.C_alloc ?_ _ | refine Kd.C_drewN ?_ _ | refine Kd.C_drew ?_); rintro e w2 ⟨v, rfl, ho, hb⟩; obtain ⟨Bm, bm, rfl, hlm, hqm⟩ := Kd.R_reads ho; have Lm := Lib.hid hlm; have Rm := Lib.hid hqm; clear ho hlm hqm; have qRu : Kd.C k30 w2 Bu u.length u := Kd.C_below (by with_reducible repeat first | exact Ru.out | refine Kd.C_alloc ?_ _ | refine Kd.C_drewN ?_ _ | refine Kd.C_drew ?_) hb; clear Ru; have Ru := Lib.hid qRu; clear qRu; have hb2 : Below w.heap.size w _ := below_step (by with_reducible repeat first | exact HB.out | apply below_alloc | apply pw_below_drewN | apply below_drew1) hb; clear HB; have HB := Lib.hid hb2; clear hb2; clear hb)
    | (go_at_call 14; with_reducible refine (cohousinglaw04_done_Without.calls k true A0 c0 l0 A1 c1 l1 x true _ ?s1 HC0.out ?s2 HC1.out HX.out).mono ?_; (case s1 => with_reducible repeat first | exact (Kd.C_below HR0.out HB.out) | refine Kd.C_alloc ?_ _ | refine Kd.C_drewN ?_ _ | refine Kd.C_drew ?_); (case s2 => with_reducible repeat first | exact (Kd.C_below HR1.out HB.out) | refine Kd.C_alloc ?_ _ | refine Kd.C_drewN ?_ _ | refine Kd.C_drew ?_); rintro e w2 ⟨v, rfl, ho, hb⟩; obtain ⟨Bx, bx, rfl, hlx, hqx⟩ := Kd.R_reads ho; have Lx := Lib.hid hlx; have Rx := Lib.hid hqx; clear ho hlx hqx; have qRu : Kd.C k30 w2 Bu u.length u := Kd.C_below (by with_reducible repeat first | exact Ru.out | refine Kd.C_alloc ?_ _ | refine Kd.C_drewN ?_ _ | refine Kd.C_drew ?_) hb; clear Ru; have Ru := Lib.hid qRu; clear qRu; have qRm : Kd.C k30 w2 Bm m.length m := Kd.C_below (by with_reducible repeat first | exact Rm.out | refine Kd.C_alloc ?_ _ | refine Kd.C_drewN ?_ _ | refine Kd.C_drew ?_) hb; clear Rm; have Rm := Lib.hid qRm; clear qRm; have hb2 : Below w.heap.size w _ := below_step (by with_reducible repeat first | exact HB.out | apply below_alloc | apply pw_below_drewN | apply below_drew1) hb; clear HB; have HB := Lib.hid hb2; clear hb2; clear hb))
  go_wp2_with fail
  have hb0 := (by with_reducible repeat first | exact HB.out | apply below_alloc | apply pw_below_drewN | apply below_drew1 : Below w.heap.size w w2)
  have K0 := Lib.hid (Kd.C_below HR0.out hb0)
  have K1 := Lib.hid (Kd.C_below HR1.out hb0)
  clear HR0 HR1 HB
  have HB := Lib.hid hb0
  clear hb0
  obtain ⟨G, hG⟩ : ∃ G_ : Nat, G_ = w2.heap.size := ⟨_, rfl⟩
  obtain ⟨W1, hW1⟩ : ∃ W_ : World, W_ = w2.alloc (.cells #[.int .i64 0, .int .i64 0, .int .i64 0, .int .i64 0, .int .i64 0] 36) := ⟨_, rfl⟩
  obtain ⟨L, hL⟩ : ∃ L_ : Nat, L_ = W1.heap.size := ⟨_, rfl⟩
  obtain ⟨W, hW⟩ : ∃ W_ : World, W_ = W1.alloc (.cells #[.slice A0 l0.length c0, .slice A1 l1.length c1, .slice Bu u.length bu, .slice Bm m.length bm, .slice Bx x.length bx] 22) := ⟨_, rfl⟩
  have bg_ := (by rw [hW1, hG]; exact heap_alloc_new _ _ : W1.heap[G]? = some (.cells #[.int .i64 0, .int .i64 0, .int .i64 0, .int .i64 0, .int .i64 0] 36 (0, 0)))
  have LG := Lib.hid (by rw [hL]; exact Nat.ne_of_gt (blk_lt bg_) : L ≠ G)
  have BN := Lib.hid (by rw [hW]; exact blk_alloc bg_ _ : W.heap[G]? = some (.cells #[.int .i64 0, .int .i64 0, .int .i64 0, .int .i64 0, .int .i64 0] 36 (0, 0)))
  have BL := Lib.hid (by rw [hW, hL]; exact heap_alloc_new _ _ : W.heap[L]? = some (.cells #[.slice A0 l0.length c0, .slice A1 l1.length c1, .slice Bu u.length bu, .slice Bm m.length bm, .slice Bx x.length bx] 22 (0, 0)))
  have H2 := Lib.hid (by rw [hW, hW1]; exact below_alloc (below_alloc (Below.refl _ _) _) _ : Below w2.heap.size w2 W)
  have GE := Lib.hid (by rw [hG]; exact Nat.le_refl _ : w2.heap.size ≤ G)
  rw [← hW1]
  rw [← hW]
  (try rw [← hG])
  have eL : L = G + 1 := by rw [hL, hW1, hG]; exact World.size_alloc _ _
  clear hW hW1 hL bg_
  subst eL
  clear hG
  refine wp_loop_rounds 6 ?_
  rw [rounds_succ]
  have y0 : W.cell? ⟨G + 1, 0, none⟩ = some (.slice A0 l0.length c0) := (blk_cell BL.out 0).trans rfl
  go_wp2_with (first | (go_at_call 17; with_reducible refine (span_Count.calls k A0 c0 l0 n0 0 _ ?s1 HC0.out E0.out).mono ?_; (case s1 => repeat (first | exact (Kd.C_below K0.out H2.out) | (with_reducible refine Kd.C_alloc ?_ _) | (with_reducible refine Kd.C_drewN ?_ _) | (with_reducible refine Kd.C_drew ?_))); rintro e w3 ⟨rfl, hb⟩; have q1_ := blk_below (by (with_reducible repeat (first | refine blk_drewN ?_ _ | refine blk_drew ?_ | refine blk_alloc ?_ _)); exact BN.out) hb; have q2_ := blk_below (by (with_reducible repeat (first | refine blk_drewN ?_ _ | refine blk_drew ?_ | refine blk_alloc ?_ _)); exact BL.out) hb; have q3_ := below_step (by with_reducible repeat first | exact H2.out | apply below_alloc | apply pw_below_drewN | apply below_drew1) hb; clear BN BL H2 hb; have BN := Lib.hid q1_; have BL := Lib.hid q2_; have H2 := Lib.hid q3_; clear q1_ q2_ q3_; have z0 : w3.cell? ⟨G, 0, none⟩ = some (.int .i64 0) := (blk_cell BN.out 0).trans rfl; have f0 := blk_frozen BN.out 0))
  have q1_ := blk_put BN.out 0 (.int .i64 n0) (cs' := #[.int .i64 n0, .int .i64 0, .int .i64 0, .int .i64 0, .int .i64 0]) rfl
  have q2_ := blk_far BL.out (p := ⟨G, 0, none⟩) LG.out (.int .i64 n0)
  have q3_ := below_set (j := 0) (v := (.int .i64 n0)) H2.out GE.out
  clear BN BL H2 y0 z0 f0
  have BN := Lib.hid q1_
  have BL := Lib.hid q2_
  have H2 := Lib.hid q3_
  clear q1_ q2_ q3_ W
  generalize w3.setCell ⟨G, 0, none⟩ (.int .i64 n0) = W at *
  clear w3
  rw [rounds_succ]
  have y1 : W.cell? ⟨G + 1, 1, none⟩ = some (.slice A1 l1.length c1) := (blk_cell BL.out 1).trans rfl
  go_wp2_with (first | (go_at_call 17; with_reducible refine (span_Count.calls k A1 c1 l1 n1 0 _ ?s1 HC1.out E1.out).mono ?_; (case s1 => repeat (first | exact (Kd.C_below K1.out H2.out) | (with_reducible refine Kd.C_alloc ?_ _) | (with_reducible refine Kd.C_drewN ?_ _) | (with_reducible refine Kd.C_drew ?_))); rintro e w3 ⟨rfl, hb⟩; have q1_ := blk_below (by (with_reducible repeat (first | refine blk_drewN ?_ _ | refine blk_drew ?_ | refine blk_alloc ?_ _)); exact BN.out) hb; have q2_ := blk_below (by (with_reducible repeat (first | refine blk_drewN ?_ _ | refine blk_drew ?_ | refine blk_alloc ?_ _)); exact BL.out) hb; have q3_ := below_step (by with_reducible repeat first | exact H2.out | apply below_alloc | apply pw_below_drewN | apply below_drew1) hb; clear BN BL H2 hb; have BN := Lib.hid q1_; have BL := Lib.hid q2_; have H2 := Lib.hid q3_; clear q1_ q2_ q3_; have z1 : w3.cell? ⟨G, 1, none⟩ = some (.int .i64 0) := (blk_cell BN.out 1).trans rfl; have f1 := blk_frozen BN.out 1))
  have q1_ := blk_put BN.out 1 (.int .i64 n1) (cs' := #[.int .i64 n0, .int .i64 n1, .int .i64 0, .int .i64 0, .int .i64 0]) rfl
  have q2_ := blk_far BL.out (p := ⟨G, 1, none⟩) LG.out (.int .i64 n1)
  have q3_ := below_set (j := 1) (v := (.int .i64 n1)) H2.out GE.out
  clear BN BL H2 y1 z1 f1
  have BN := Lib.hid q1_
  have BL := Lib.hid q2_
  have H2 := Lib.hid q3_
  clear q1_ q2_ q3_ W
  generalize w3.setCell ⟨G, 1, none⟩ (.int .i64 n1) = W at *
  clear w3
  rw [rounds_succ]
  have y2 : W.cell? ⟨G + 1, 2, none⟩ = some (.slice Bu u.length bu) := (blk_cell BL.out 2).trans rfl
  go_wp2_with (first | (go_at_call 17; with_reducible refine (span_Count.calls k Bu bu u n2 0 _ ?s1 Lu.out E2.out).mono ?_; (case s1 => repeat (first | exact (Kd.C_below Ru.out H2.out) | (with_reducible refine Kd.C_alloc ?_ _) | (with_reducible refine Kd.C_drewN ?_ _) | (with_reducible refine Kd.C_drew ?_))); rintro e w3 ⟨rfl, hb⟩; have q1_ := blk_below (by (with_reducible repeat (first | refine blk_drewN ?_ _ | refine blk_drew ?_ | refine blk_alloc ?_ _)); exact BN.out) hb; have q2_ := blk_below (by (with_reducible repeat (first | refine blk_drewN ?_ _ | refine blk_drew ?_ | refine blk_alloc ?_ _)); exact BL.out) hb; have q3_ := below_step (by with_reducible repeat first | exact H2.out | apply below_alloc | apply pw_below_drewN | apply below_drew1) hb; clear BN BL H2 hb; have BN := Lib.hid q1_; have BL := Lib.hid q2_; have H2 := Lib.hid q3_; clear q1_ q2_ q3_; have z2 : w3.cell? ⟨G, 2, none⟩ = some (.int .i64 0) := (blk_cell BN.out 2).trans rfl; have f2 := blk_frozen BN.out 2))
  have q1_ := blk_put BN.out 2 (.int .i64 n2) (cs' := #[.int .i64 n0, .int .i64 n1, .int .i64 n2, .int .i64 0, .int .i64 0]) rfl
  have q2_ := blk_far BL.out (p := ⟨G, 2, none⟩) LG.out (.int .i64 n2)
  have q3_ := below_set (j := 2) (v := (.int .i64 n2)) H2.out GE.out
  clear BN BL H2 y2 z2 f2
  have BN := Lib.hid q1_
  have BL := Lib.hid q2_
  have H2 := Lib.hid q3_
  clear q1_ q2_ q3_ W
  generalize w3.setCell ⟨G, 2, none⟩ (.int .i64 n2) = W at *
  clear w3
  rw [rounds_succ]
  have y3 : W.cell? ⟨G + 1, 3, none⟩ = some (.slice Bm m.length bm) := (blk_cell BL.out 3).trans rfl
  go_wp2_with (first | (go_at_call 17; with_reducible refine (span_Count.calls k Bm bm m n3 0 _ ?s1 Lm.out E3.out).mono ?_; (case s1 => repeat (first | exact (Kd.C_below Rm.out H2.out) | (with_reducible refine Kd.C_alloc ?_ _) | (with_reducible refine Kd.C_drewN ?_ _) | (with_reducible refine Kd.C_drew ?_))); rintro e w3 ⟨rfl, hb⟩; have q1_ := blk_below (by (with_reducible repeat (first | refine blk_drewN ?_ _ | refine blk_drew ?_ | refine blk_alloc ?_ _)); exact BN.out) hb; have q2_ := blk_below (by (with_reducible repeat (first | refine blk_drewN ?_ _ | refine blk_drew ?_ | refine blk_alloc ?_ _)); exact BL.out) hb; have q3_ := below_step (by with_reducible repeat first | exact H2.out | apply below_alloc | apply pw_below_drewN | apply below_drew1) hb; clear BN BL H2 hb; have BN := Lib.hid q1_; have BL := Lib.hid q2_; have H2 := Lib.hid q3_; clear q1_ q2_ q3_; have z3 : w3.cell? ⟨G, 3, none⟩ = some (.int .i64 0) := (blk_cell BN.out 3).trans rfl; have f3 := blk_frozen BN.out 3))
  have q1_ := blk_put BN.out 3 (.int .i64 n3) (cs' := #[.int .i64 n0, .int .i64 n1, .int .i64 n2, .int .i64 n3, .int .i64 0]) rfl
  have q2_ := blk_far BL.out (p := ⟨G, 3, none⟩) LG.out (.int .i64 n3)
  have q3_ := below_set (j := 3) (v := (.int .i64 n3)) H2.out GE.out
  clear BN BL H2 y3 z3 f3
  have BN := Lib.hid q1_
  have BL := Lib.hid q2_
  have H2 := Lib.hid q3_
  clear q1_ q2_ q3_ W
  generalize w3.setCell ⟨G, 3, none⟩ (.int .i64 n3) = W at *
  clear w3
  rw [rounds_succ]
  have y4 : W.cell? ⟨G + 1, 4, none⟩ = some (.slice Bx x.length bx) := (blk_cell BL.out 4).trans rfl
  go_wp2_with (first | (go_at_call 17; with_reducible refine (span_Count.calls k Bx bx x n4 0 _ ?s1 Lx.out E4.out).mono ?_; (case s1 => repeat (first | exact (Kd.C_below Rx.out H2.out) | (with_reducible refine Kd.C_alloc ?_ _) | (with_reducible refine Kd.C_drewN ?_ _) | (with_reducible refine Kd.C_drew ?_))); rintro e w3 ⟨rfl, hb⟩; have q1_ := blk_below (by (with_reducible repeat (first | refine blk_drewN ?_ _ | refine blk_drew ?_ | refine blk_alloc ?_ _)); exact BN.out) hb; have q2_ := blk_below (by (with_reducible repeat (first | refine blk_drewN ?_ _ | refine blk_drew ?_ | refine blk_alloc ?_ _)); exact BL.out) hb; have q3_ := below_step (by with_reducible repeat first | exact H2.out | apply below_alloc | apply pw_below_drewN | apply below_drew1) hb; clear BN BL H2 hb; have BN := Lib.hid q1_; have BL := Lib.hid q2_; have H2 := Lib.hid q3_; clear q1_ q2_ q3_; have z4 : w3.cell? ⟨G, 4, none⟩ = some (.int .i64 0) := (blk_cell BN.out 4).trans rfl; have f4 := blk_frozen BN.out 4))
  have q1_ := blk_put BN.out 4 (.int .i64 n4) (cs' := #[.int .i64 n0, .int .i64 n1, .int .i64 n2, .int .i64 n3, .int .i64 n4]) rfl
  have q2_ := blk_far BL.out (p := ⟨G, 4, none⟩) LG.out (.int .i64 n4)
  have q3_ := below_set (j := 4) (v := (.int .i64 n4)) H2.out GE.out
  clear BN BL H2 y4 z4 f4
  have BN := Lib.hid q1_
  have BL := Lib.hid q2_
  have H2 := Lib.hid q3_
  clear q1_ q2_ q3_ W
  generalize w3.setCell ⟨G, 4, none⟩ (.int .i64 n4) = W at *
  clear w3
  rw [rounds_succ]
  have z0 : W.cell? ⟨G, 0, none⟩ = some (.int .i64 n0) := (blk_cell BN.out 0).trans rfl
  have z1 : W.cell? ⟨G, 1, none⟩ = some (.int .i64 n1) := (blk_cell BN.out 1).trans rfl
  have z2 : W.cell? ⟨G, 2, none⟩ = some (.int .i64 n2) := (blk_cell BN.out 2).trans rfl
  have z3 : W.cell? ⟨G, 3, none⟩ = some (.int .i64 n3) := (blk_cell BN.out 3).trans rfl
  have z4 : W.cell? ⟨G, 4, none⟩ = some (.int .i64 n4) := (blk_cell BN.out 4).trans rfl
  have s1b : (wrap64 (n0 + n1) == wrap64 (n2 + n3)) = true := beq_iff_eq.mpr s1
  have s2b : (wrap64 (n4 + n3) == n0) = true := beq_iff_eq.mpr s2
  go_wp2_with fail
  go_ret
  exact ⟨by first | rfl | (simp [s1, s2]; done) | (simp [s1b, s2b]; done), by with_reducible repeat first | exact below_step HB.out H2.out | apply pw_below_drewN | apply below_drew1⟩
/-- The days of two sets, of their union, of what they share, and of the difference, counted. -/
def countsF (k : Nat) (l0 l1 : List S30) : Option Bool := (cohousinglaw04_done_Union.f k true l0 l1).bind fun u => (cohousinglaw04_done_Meet.f k true l0 l1).bind fun m => (cohousinglaw04_done_Without.f k true l0 l1).bind fun x => (span_Count.f k l0).bind fun n0 => (span_Count.f k l1).bind fun n1 => (span_Count.f k u.1).bind fun n2 => (span_Count.f k m.1).bind fun n3 => (span_Count.f k x.1).bind fun n4 => if (u.2 = true ∧ m.2 = true ∧ x.2 = true) ∧ (n0.2 = 0 ∧ n1.2 = 0 ∧ n2.2 = 0 ∧ n3.2 = 0 ∧ n4.2 = 0) ∧ (¬ n0.1 < (l0.length : Int) ∧ ¬ n1.1 < (l1.length : Int) ∧ ¬ n2.1 < (u.1.length : Int) ∧ ¬ n3.1 < (m.1.length : Int) ∧ ¬ n4.1 < (x.1.length : Int)) ∧ wrap64 (n0.1 + n1.1) = wrap64 (n2.1 + n3.1) ∧ wrap64 (n4.1 + n3.1) = n0.1 then some true else none
def cohousinglaw04_SpanCounts.f (k : Nat) (l0 l1 : List S30) : Option Bool := (cohousinglaw04_head.f k).bind fun t => if t = true then ((span_Valid.f k l0).bind fun v0 => if v0 = true then ((span_Valid.f k l1).bind fun v1 => if v1 = true then (if (400 : Int) < (l0.length : Int) then some true else if (400 : Int) < (l1.length : Int) then some true else countsF k l0 l1) else some true) else some true) else none
theorem cohousinglaw04_SpanCounts.calls (k : Nat) (A0 : Option Addr) (c0 : Nat) (l0 : List S30) (A1 : Option Addr) (c1 : Nat) (l1 : List S30) (r : Bool) (w : World) (hr0 : Kd.C k30 w A0 l0.length l0) (hc0 : l0.length ≤ c0) (hr1 : Kd.C k30 w A1 l1.length l1) (hc1 : l1.length ≤ c1) (h : cohousinglaw04_SpanCounts.f k l0 l1 = some r) :
    Calls Try.prog 5 #[.slice A0 l0.length c0, .slice A1 l1.length c1] w fun e w' => e = .returned (.bool r) ∧ Below w.heap.size w w' := by
  unfold cohousinglaw04_SpanCounts.f at h
  obtain ⟨t, hh, h⟩ := Option.bind_eq_some_iff.mp h
  cases t with
  | false => rw [if_neg (by decide)] at h; cases h
  | true =>
  rw [if_pos rfl] at h
  obtain ⟨v0, hv0, h⟩ := Option.bind_eq_some_iff.mp h
  cases v0 with
  | false =>
    rw [if_neg (by decide)] at h
    obtain rfl := Option.some.inj h
    exact counts_bad0 k A0 A1 c0 c1 l0 l1 w hr0 hc0 hr1 hc1 hh hv0
  | true =>
  rw [if_pos rfl] at h
  obtain ⟨v1, hv1, h⟩ := Option.bind_eq_some_iff.mp h
  cases v1 with
  | false =>
    rw [if_neg (by decide)] at h
    obtain rfl := Option.some.inj h
    exact counts_bad1 k A0 A1 c0 c1 l0 l1 w hr0 hc0 hr1 hc1 hh hv0 hv1
  | true =>
  rw [if_pos rfl] at h
  by_cases q0 : (400 : Int) < (l0.length : Int)
  · rw [if_pos q0] at h
    obtain rfl := Option.some.inj h
    exact counts_bad2 k A0 A1 c0 c1 l0 l1 w hr0 hc0 hr1 hc1 hh hv0 hv1 q0
  rw [if_neg q0] at h
  by_cases q1 : (400 : Int) < (l1.length : Int)
  · rw [if_pos q1] at h
    obtain rfl := Option.some.inj h
    exact counts_bad3 k A0 A1 c0 c1 l0 l1 w hr0 hc0 hr1 hc1 hh hv0 hv1 q0 q1
  rw [if_neg q1] at h
  unfold countsF at h
  obtain ⟨⟨u, bu⟩, hu, h⟩ := Option.bind_eq_some_iff.mp h
  obtain ⟨⟨m, bm⟩, hm, h⟩ := Option.bind_eq_some_iff.mp h
  obtain ⟨⟨x, bx⟩, hx, h⟩ := Option.bind_eq_some_iff.mp h
  obtain ⟨⟨n0, bn0⟩, hn0, h⟩ := Option.bind_eq_some_iff.mp h
  obtain ⟨⟨n1, bn1⟩, hn1, h⟩ := Option.bind_eq_some_iff.mp h
  obtain ⟨⟨n2, bn2⟩, hn2, h⟩ := Option.bind_eq_some_iff.mp h
  obtain ⟨⟨n3, bn3⟩, hn3, h⟩ := Option.bind_eq_some_iff.mp h
  obtain ⟨⟨n4, bn4⟩, hn4, h⟩ := Option.bind_eq_some_iff.mp h
  split at h
  case isFalse => cases h
  rename_i hc
  obtain rfl := Option.some.inj h
  obtain ⟨⟨rfl, rfl, rfl⟩, ⟨rfl, rfl, rfl, rfl, rfl⟩, ⟨g0, g1, g2, g3, g4⟩, s1, s2⟩ := hc
  exact counts_main k A0 A1 c0 c1 l0 l1 u m x n0 n1 n2 n3 n4 w hr0 hc0 hr1 hc1 hh hv0 hv1 q0 q1 hu hm hx hn0 hn1 hn2 hn3 hn4 g0 g1 g2 g3 g4 s1 s2
end

/-! ### cohousingref04_Shift: function 18 -/
def cohousingref04_Shift.l0 : Nat → List (S30) → Int → List (S30) → Int → Option ((List (S30)))
  | 0, _, _, _, _ => none
  | k + 1, x0, x1, x5, x6 => if x6 < (x0.length : Int) then (if 0 ≤ x6 then (if x5.length < 8796093022208 then (cohousingref04_Shift.l0 k x0 x1 (x5 ++ [(⟨wrap64 (((rd_T30 x0 x6).f0) + x1), wrap64 (((rd_T30 x0 x6).f1) + x1)⟩ : S30)]) (wrap64 (x6 + 1))) else (none)) else (none)) else (some x5)
def cohousingref04_Shift.f (k : Nat) (l0 : List (S30)) (a1 : Int) : Option ((List (S30))) := cohousingref04_Shift.l0 k l0 a1 ([] : List (S30)) 0
theorem cohousingref04_Shift.mono_l : ∀ k, (∀ y0 y1 y2 y3, LeO (cohousingref04_Shift.l0 k y0 y1 y2 y3) (cohousingref04_Shift.l0 (k + 1) y0 y1 y2 y3))
  | 0 => fun _ _ _ _ r h => by simp [cohousingref04_Shift.l0] at h
  | k + 1 => by
    have ih0 := cohousingref04_Shift.mono_l k
    · intro y0 y1 y2 y3
      unfold cohousingref04_Shift.l0
      repeat' first
      | (with_reducible exact ih0 _ _ _ _)
      | (with_reducible exact LeO.refl _)
      | (with_reducible exact LeO.none _)
      | (with_reducible refine LeO.ite ?_ ?_)
      | (with_reducible refine LeO.bind ?_ (fun _ => ?_))
      | exact ih0 _ _ _ _
      | exact LeO.none _
      | refine LeO.ite ?_ ?_
      | refine LeO.bind ?_ (fun _ => ?_)
theorem cohousingref04_Shift.mono : ∀ a0 a1 k, LeO (cohousingref04_Shift.f k a0 a1) (cohousingref04_Shift.f (k + 1) a0 a1) := by
  intro a0 a1 k
  have ih0 := cohousingref04_Shift.mono_l k
  unfold cohousingref04_Shift.f
  repeat' first
      | (with_reducible exact ih0 _ _ _ _)
      | (with_reducible exact LeO.refl _)
      | (with_reducible exact LeO.none _)
      | (with_reducible refine LeO.ite ?_ ?_)
      | (with_reducible refine LeO.bind ?_ (fun _ => ?_))
      | exact ih0 _ _ _ _
      | exact LeO.none _
      | refine LeO.ite ?_ ?_
      | refine LeO.bind ?_ (fun _ => ?_)
def cohousingref04_Shift.T5 : Bool × List (List Nat × List Nat) := (true, [([], []), ([], []), ([], []), ([1, 2], [1, 2]), ([3], [3]), ([4], [4]), ([], []), ([5, 6], [5, 6]), ([], []), ([], []), ([8, 9], [8, 9]), ([10], [10]), ([11], [11]), ([], []), ([12, 13], [12, 13]), ([7, 14], [7, 14]), ([15], [15]), ([0, 16], [0, 16]), ([17, 17, 0, 1, 2, 3, 4, 5, 6, 7, 8, 9, 10, 11, 12, 13, 14, 15, 16, 17], [0, 17])])
def cohousingref04_Shift.B5 : List Nat := [0, 0, 0, 6, 14, 30, 0, 126, 0, 0, 768, 1792, 3840, 0, 16128, 32766, 65534, 131071, 262143]
theorem cohousingref04_Shift.tab5 : rtab .any (opsOf Try.f18 5) = cohousingref04_Shift.T5 := by kernel_rfl
theorem cohousingref04_Shift.bits5 : waitsOk cohousingref04_Shift.T5.2 cohousingref04_Shift.B5 = true := by kernel_rfl
set_option maxHeartbeats 8000000 in
set_option maxRecDepth 100000 in
theorem cohousingref04_Shift.calls (k : Nat) (A0 : Option Addr) (c0 : Nat) (l0 : List (S30)) (a1 : Int) (r : List (S30)) (w : World) (hr0 : Kd.C k30 w A0 l0.length l0) (hc0 : l0.length ≤ c0) (h : cohousingref04_Shift.f k l0 a1 = some r) :
    Calls Try.prog 18 #[.slice A0 l0.length c0, .int .i64 a1] w fun e w' => ∃ v0_ : Value, e = .returned (v0_) ∧ Kd.R k30 30 w' w.heap.size (fun _ => True) v0_ r ∧ Below w.heap.size w w' := by
  have hu30 := Try.underlying30
  have HR0 := Aside0.mk hr0
  have HC0 := Aside0.mk hc0
  clear hr0 hc0
  have HB := Aside0.mk (Below.refl w.heap.size w)
  have H : (cohousingref04_Shift.l0 k l0 a1 ([] : List (S30)) 0) = some r := h
  clear h
  have H' := Aside0.mk H
  clear H
  go_enter Try.func18, Try.ntmps18
  go_wp2
  go_loopg [5, 6] k (fun kq v5 v6 w' => ∃ (x5_1 : List (S30)) (x6_1 : Int), v6 = .int .i64 x6_1 ∧ Aside0 (cohousingref04_Shift.l0 kq l0 a1 x5_1 x6_1 = some r) ∧ Aside0 (kq ≤ k) ∧ Aside0 (Kd.R k30 30 w' w.heap.size (fun _ => True) v5 x5_1) ∧ Aside0 (Below w.heap.size w w'))
  case atStart => exact ⟨(([] : List (S30))), (0), (by first | rfl | (simp; done) | (simp [*]; done)), H', ⟨Nat.le_refl _⟩, ⟨by first | exact Kd.R_nil _ _ _ _ _ | exact Kd.N_nil _ _ _ _ _ | exact Kd.V_nil _ _ _ _ _ | exact Kd.Q_nil _ _ _ _ _ | exact Kd.S_nil _ _ _ _ _⟩, ⟨by repeat (first | (with_reducible first | exact HB.out | apply below_alloc | apply pw_below_drewN | apply below_drew1) | exact HB.out)⟩⟩
  case round =>
    clear H'
    try clear c1
    try clear p2
    obtain ⟨x5_1, x6_1, rfl, HA, HK1, HO_5, HB⟩ := hrel
    cases gk with
    | zero => exact absurd HA.out (by simp [cohousingref04_Shift.l0])
    | succ k1 =>
      have H := HA.out
      clear HA
      simp only [cohousingref04_Shift.l0] at H
      by_cases c3 : x6_1 < (l0.length : Int)
      · rw [if_pos c3] at H
        have c3b0 : decide (x6_1 < (l0.length : Int)) = true := decide_eq_true c3
        clear c3
        by_cases c4 : 0 ≤ x6_1
        · rw [if_pos c4] at H
          have c4b0 : decide (0 ≤ x6_1) = true := decide_eq_true c4
          clear c4
          by_cases c5 : x5_1.length < 8796093022208
          · rw [if_pos c5] at H
            have LMc5 := Aside0.mk c5
            clear c5
            obtain ⟨y502, hy502⟩ : ∃ y_ : List (S30), y_ = (x5_1 ++ [(⟨wrap64 (((rd_T30 l0 x6_1).f0) + a1), wrap64 (((rd_T30 l0 x6_1).f1) + a1)⟩ : S30)]) := ⟨_, rfl⟩
            replace H : (cohousingref04_Shift.l0 k1 l0 a1 y502 (wrap64 (x6_1 + 1))) = some r := by first | (rw [hy502]; with_reducible exact H) | (have H2_ := (Option.bind_some _ _).symm.trans H; rw [hy502]; with_reducible exact H2_) | (have H2_ := (Option.bind_some _ _).symm.trans H; with_reducible exact H2_) | with_reducible exact H | (rw [hy502]; exact H) | exact H
            have Ny502 := Aside0.mk hy502
            clear hy502
            have H' := Aside0.mk H
            clear H
            try go_wp2
            have n0_ := Aside0.mk (Kd.R_drew HO_5.out)
            have n1_ := Aside0.mk (below_drew1 HB.out)
            clear HO_5
            clear HB
            have HO_5 := n0_
            have HB := n1_
            clear n0_ n1_
            have p500 : 0 ≤ (x6_1 : Int) := of_decide_eq_true (by first | (with_reducible assumption) | assumption)
            have q500 : x6_1 < (l0.length : Int) := of_decide_eq_true (by first | (with_reducible assumption) | assumption)
            obtain ⟨ad500, e500, hx500_0, hx500_1⟩ := at_T30 HR0.out x6_1 p500 q500
            have hw500_1 := hx500_1
            have hw500_0 := hx500_0
            cases e500
            replace hx500_0 := (HB.out.cell (World.block_lt_of_cell? w _ hx500_0)).trans hx500_0
            replace hx500_1 := (HB.out.cell (World.block_lt_of_cell? w _ hx500_1)).trans hx500_1
            replace p500 := eq_true p500
            replace q500 := eq_true q500
            have p501 : 0 ≤ (x6_1 : Int) := of_decide_eq_true (by first | (with_reducible assumption) | assumption)
            have q501 : x6_1 < (l0.length : Int) := of_decide_eq_true (by first | (with_reducible assumption) | assumption)
            obtain ⟨ad501, e501, hx501_0, hx501_1⟩ := at_T30 HR0.out x6_1 p501 q501
            have hw501_1 := hx501_1
            have hw501_0 := hx501_0
            obtain rfl : ad500 = ad501 := (by injection e501)
            replace hx501_0 := (HB.out.cell (World.block_lt_of_cell? w _ hx501_0)).trans hx501_0
            replace hx501_1 := (HB.out.cell (World.block_lt_of_cell? w _ hx501_1)).trans hx501_1
            replace p501 := eq_true p501
            replace q501 := eq_true q501
            refine start_ (n := 19) (S := fun w' => w'.cell? (ad500.add ((x6_1).toNat * 2)) = some (.int .i64 ((rd_T30 l0 x6_1).f0)) ∧ w'.cell? ⟨(ad500.add ((x6_1).toNat * 2)).block, (ad500.add ((x6_1).toNat * 2)).off + 1, none⟩ = some (.int .i64 ((rd_T30 l0 x6_1).f1)) ∧ w'.cell? (ad500.add ((x6_1).toNat * 2)) = some (.int .i64 ((rd_T30 l0 x6_1).f0)) ∧ w'.cell? ⟨(ad500.add ((x6_1).toNat * 2)).block, (ad500.add ((x6_1).toNat * 2)).off + 1, none⟩ = some (.int .i64 ((rd_T30 l0 x6_1).f1))) (ds := []) #[false, false, false, false, false, false, false, false, false, false, false, false, false, false, false, false, false, false, false] (by kernel_rfl) rfl rfl ⟨((HB.out.cell (World.block_lt_of_cell? w _ hw500_0)).trans hw500_0), ((HB.out.cell (World.block_lt_of_cell? w _ hw500_1)).trans hw500_1), ((HB.out.cell (World.block_lt_of_cell? w _ hw501_0)).trans hw501_0), ((HB.out.cell (World.block_lt_of_cell? w _ hw501_1)).trans hw501_1)⟩ (fun hHeld => ?_); refine with_tabW cohousingref04_Shift.tab5 cohousingref04_Shift.bits5 (fun HT_ HW_ => ?_)
            generalize wr.drew = w6 at HO_5 HB hx500_0 hx500_1 hx501_0 hx501_1 hHeld ⊢
            refine pure_ (i := 0) (N := some 13) (v := ?_) (a' := ?_) #[true, false, false, false, false, false, false, false, false, false, false, false, false, false, false, false, false, false, false] rfl rfl (any_of HT_.out (by kernel_rfl)) (fun _ _ _ h => h) (Or.inl ⟨by rfl, ?_⟩) ?_ ?_
            rotate_left
            · intro w'
              go_simp
              with_reducible rfl
            rotate_left
            · simp only [Act.put, List.setIfInBounds_toArray, List.set_cons_zero, List.set_cons_succ, i64_w, i32_w]
              rfl
            refine pure_ (i := 1) (N := some 14) (v := ?_) (a' := ?_) #[true, true, false, false, false, false, false, false, false, false, false, false, false, false, false, false, false, false, false] rfl rfl (any_of HT_.out (by kernel_rfl)) (fun _ _ _ h => h) (Or.inl ⟨by rfl, ?_⟩) ?_ ?_
            rotate_left
            · intro w'
              go_simp
              with_reducible rfl
            rotate_left
            · simp only [Act.put, List.setIfInBounds_toArray, List.set_cons_zero, List.set_cons_succ, i64_w, i32_w]
              rfl
            refine pure_ (i := 2) (N := some 15) (v := ?_) (a' := ?_) #[true, true, true, false, false, false, false, false, false, false, false, false, false, false, false, false, false, false, false] rfl rfl (any_of HT_.out (by kernel_rfl)) (fun _ _ _ h => h) (Or.inl ⟨by rfl, ?_⟩) ?_ ?_
            rotate_left
            · intro w'
              go_simp
              with_reducible rfl
            rotate_left
            · simp only [Act.put, List.setIfInBounds_toArray, List.set_cons_zero, List.set_cons_succ, i64_w, i32_w]
              rfl
            refine pure_ (i := 3) (N := some 16) (v := ?_) (a' := ?_) #[true, true, true, true, false, false, false, false, false, false, false, false, false, false, false, false, false, false, false] rfl rfl (any_of HT_.out (by kernel_rfl)) (fun _ _ _ h => h) (Or.inl ⟨by rfl, ?_⟩) ?_ ?_
            rotate_left
            · intro w'
              go_simp
              with_reducible rfl
            rotate_left
            · simp only [Act.put, List.setIfInBounds_toArray, List.set_cons_zero, List.set_cons_succ, i64_w, i32_w]
              rfl
            refine pure_ (i := 4) (N := some 17) (v := ?_) (a' := ?_) #[true, true, true, true, true, false, false, false, false, false, false, false, false, false, false, false, false, false, false] rfl rfl (any_of HT_.out (by kernel_rfl)) (fun _ _ _ h => h) (Or.inl ⟨by rfl, ?_⟩) ?_ ?_
            rotate_left
            · intro w'
              go_simp
              with_reducible rfl
            rotate_left
            · simp only [Act.put, List.setIfInBounds_toArray, List.set_cons_zero, List.set_cons_succ, i64_w, i32_w]
              rfl
            refine pure_ (i := 6) (N := some 19) (v := ?_) (a' := ?_) #[true, true, true, true, true, false, true, false, false, false, false, false, false, false, false, false, false, false, false] rfl rfl (any_of HT_.out (by kernel_rfl)) (fun _ _ _ h => h) (Or.inl ⟨by rfl, ?_⟩) ?_ ?_
            rotate_left
            · intro w'
              go_simp
              with_reducible rfl
            rotate_left
            · simp only [Act.put, List.setIfInBounds_toArray, List.set_cons_zero, List.set_cons_succ, i64_w, i32_w]
              rfl
            refine pure_ (i := 8) (N := some 21) (v := ?_) (a' := ?_) #[true, true, true, true, true, false, true, false, true, false, false, false, false, false, false, false, false, false, false] rfl rfl (any_of HT_.out (by kernel_rfl)) (fun _ _ _ h => h) (Or.inl ⟨by rfl, ?_⟩) ?_ ?_
            rotate_left
            · intro w'
              go_simp
              with_reducible rfl
            rotate_left
            · simp only [Act.put, List.setIfInBounds_toArray, List.set_cons_zero, List.set_cons_succ, i64_w, i32_w]
              rfl
            refine pure_ (i := 9) (N := some 22) (v := ?_) (a' := ?_) #[true, true, true, true, true, false, true, false, true, true, false, false, false, false, false, false, false, false, false] rfl rfl (any_of HT_.out (by kernel_rfl)) (fun _ _ _ h => h) (Or.inl ⟨by rfl, ?_⟩) ?_ ?_
            rotate_left
            · intro w'
              go_simp
              with_reducible rfl
            rotate_left
            · simp only [Act.put, List.setIfInBounds_toArray, List.set_cons_zero, List.set_cons_succ, i64_w, i32_w]
              rfl
            refine pure_ (i := 10) (N := some 23) (v := ?_) (a' := ?_) #[true, true, true, true, true, false, true, false, true, true, true, false, false, false, false, false, false, false, false] rfl rfl (any_of HT_.out (by kernel_rfl)) (fun _ _ _ h => h) (Or.inl ⟨by rfl, ?_⟩) ?_ ?_
            rotate_left
            · intro w'
              go_simp
              with_reducible rfl
            rotate_left
            · simp only [Act.put, List.setIfInBounds_toArray, List.set_cons_zero, List.set_cons_succ, i64_w, i32_w]
              rfl
            refine pure_ (i := 11) (N := some 24) (v := ?_) (a' := ?_) #[true, true, true, true, true, false, true, false, true, true, true, true, false, false, false, false, false, false, false] rfl rfl (any_of HT_.out (by kernel_rfl)) (fun _ _ _ h => h) (Or.inl ⟨by rfl, ?_⟩) ?_ ?_
            rotate_left
            · intro w'
              go_simp
              with_reducible rfl
            rotate_left
            · simp only [Act.put, List.setIfInBounds_toArray, List.set_cons_zero, List.set_cons_succ, i64_w, i32_w]
              rfl
            refine pure_ (i := 13) (N := some 26) (v := ?_) (a' := ?_) #[true, true, true, true, true, false, true, false, true, true, true, true, false, true, false, false, false, false, false] rfl rfl (any_of HT_.out (by kernel_rfl)) (fun _ _ _ h => h) (Or.inl ⟨by rfl, ?_⟩) ?_ ?_
            rotate_left
            · intro w'
              go_simp
              with_reducible rfl
            rotate_left
            · simp only [Act.put, List.setIfInBounds_toArray, List.set_cons_zero, List.set_cons_succ, i64_w, i32_w]
              rfl
            refine take_ (i := 5) (N := some 18) (v := ?_) (a' := ?_) #[true, true, true, true, true, true, true, false, true, true, true, true, false, true, false, false, false, false, false] rfl rfl (take_ofW HT_.out HW_.out (by kernel_rfl)) (fun _ _ _ h => h) (Or.inl ⟨by rfl, ?_⟩) hHeld ?_ ?_
            rotate_left
            · rintro w' ⟨s0, s1, s2, s3⟩
              go_simp
              with_reducible rfl
            rotate_left
            · simp only [Act.put, List.setIfInBounds_toArray, List.set_cons_zero, List.set_cons_succ, i64_w, i32_w]
              rfl
            refine pure_ (i := 7) (N := some 20) (v := ?_) (a' := ?_) #[true, true, true, true, true, true, true, true, true, true, true, true, false, true, false, false, false, false, false] rfl rfl (any_of HT_.out (by kernel_rfl)) (fun _ _ _ h => h) (Or.inl ⟨by rfl, ?_⟩) ?_ ?_
            rotate_left
            · intro w'
              go_simp
              with_reducible rfl
            rotate_left
            · simp only [Act.put, List.setIfInBounds_toArray, List.set_cons_zero, List.set_cons_succ, i64_w, i32_w]
              rfl
            refine take_ (i := 12) (N := some 25) (v := ?_) (a' := ?_) #[true, true, true, true, true, true, true, true, true, true, true, true, true, true, false, false, false, false, false] rfl rfl (take_ofW HT_.out HW_.out (by kernel_rfl)) (fun _ _ _ h => h) (Or.inl ⟨by rfl, ?_⟩) hHeld ?_ ?_
            rotate_left
            · rintro w' ⟨s0, s1, s2, s3⟩
              go_simp
              with_reducible rfl
            rotate_left
            · simp only [Act.put, List.setIfInBounds_toArray, List.set_cons_zero, List.set_cons_succ, i64_w, i32_w]
              rfl
            refine pure_ (i := 14) (N := some 27) (v := ?_) (a' := ?_) #[true, true, true, true, true, true, true, true, true, true, true, true, true, true, true, false, false, false, false] rfl rfl (any_of HT_.out (by kernel_rfl)) (fun _ _ _ h => h) (Or.inl ⟨by rfl, ?_⟩) ?_ ?_
            rotate_left
            · intro w'
              go_simp
              with_reducible rfl
            rotate_left
            · simp only [Act.put, List.setIfInBounds_toArray, List.set_cons_zero, List.set_cons_succ, i64_w, i32_w]
              rfl
            refine pure_ (i := 15) (N := some 28) (v := ?_) (a' := ?_) #[true, true, true, true, true, true, true, true, true, true, true, true, true, true, true, true, false, false, false] rfl rfl (any_of HT_.out (by kernel_rfl)) (fun _ _ _ h => h) (Or.inl ⟨by rfl, ?_⟩) ?_ ?_
            rotate_left
            · intro w'
              go_simp
              with_reducible rfl
            rotate_left
            · simp only [Act.put, List.setIfInBounds_toArray, List.set_cons_zero, List.set_cons_succ, i64_w, i32_w]
              rfl
            refine one_ (i := 16) (N := some 29) #[true, true, true, true, true, true, true, true, true, true, true, true, true, true, true, true, true, false, false] rfl rfl (one_of HT_.out (by kernel_rfl)) (by decide) (fun K hK => ?_)
            refine value_ (w1 := ?_) (v := ?_) (by rfl) rfl ?_ ?_
            rotate_left 2
            · go_simp
              constructor
              · rfl
              · rfl
            refine hK.out _ _ ⟨(World.cell?_alloc_lt _ _ _ (World.block_lt_of_cell? _ _ (((HB.out.cell (World.block_lt_of_cell? w _ hw500_0)).trans hw500_0)))).trans (((HB.out.cell (World.block_lt_of_cell? w _ hw500_0)).trans hw500_0)), (World.cell?_alloc_lt _ _ _ (World.block_lt_of_cell? _ _ (((HB.out.cell (World.block_lt_of_cell? w _ hw500_1)).trans hw500_1)))).trans (((HB.out.cell (World.block_lt_of_cell? w _ hw500_1)).trans hw500_1)), (World.cell?_alloc_lt _ _ _ (World.block_lt_of_cell? _ _ (((HB.out.cell (World.block_lt_of_cell? w _ hw501_0)).trans hw501_0)))).trans (((HB.out.cell (World.block_lt_of_cell? w _ hw501_0)).trans hw501_0)), (World.cell?_alloc_lt _ _ _ (World.block_lt_of_cell? _ _ (((HB.out.cell (World.block_lt_of_cell? w _ hw501_1)).trans hw501_1)))).trans (((HB.out.cell (World.block_lt_of_cell? w _ hw501_1)).trans hw501_1))⟩ (fun hHeld => ?_)
            clear hK K
            refine norm_ (a' := ?_) ?_ ?_
            rotate_left
            · show Act.put _ (some 29) _ = _
              simp only [Act.put, List.setIfInBounds_toArray, List.set_cons_zero, List.set_cons_succ, i64_w, i32_w]
              rfl
            refine one_ (i := 17) (N := some 30) #[true, true, true, true, true, true, true, true, true, true, true, true, true, true, true, true, true, true, false] rfl rfl (one_of HT_.out (by kernel_rfl)) (by decide) (fun K hK => ?_)
            refine Kd.R_append_step k30 (w0 := w) w.heap.size (by rfl) (.tmp 13) (.tmp 29) 22 30 (.agg #[(.int .i64 0), (.int .i64 0)]) 16 rfl Try.underlying22 info30 rfl (by decide) (by omega) u5 x5_1 (⟨wrap64 (((rd_T30 l0 x6_1).f0) + a1), wrap64 (((rd_T30 l0 x6_1).f1) + a1)⟩ : S30) [.int .i64 (wrap64 (((rd_T30 l0 x6_1).f0) + a1)), .int .i64 (wrap64 (((rd_T30 l0 x6_1).f1) + a1))] (fun _ => True) (fun _ => False) rfl rfl ?aP (fun _ hk => hk.elim) ?aF ?aO ?aB ?aS ?aL ?_
            (case aP => exact k30_mkM _ _ _ (⟨wrap64 (((rd_T30 l0 x6_1).f0) + a1), wrap64 (((rd_T30 l0 x6_1).f1) + a1)⟩ : S30))
            (case aB => exact (by repeat (first | (with_reducible first | exact HB.out | apply below_alloc | apply pw_below_drewN | apply below_drew1) | exact HB.out)))
            (case aF => exact (fun _ _ => trivial))
            (case aO => exact (by (with_reducible repeat (first | apply Kd.R_alloc | apply Kd.R_drewN | apply Kd.R_drew)); exact HO_5.out))
            (case aS => exact (below_size (by repeat (first | (with_reducible first | exact HB.out | apply below_alloc | apply pw_below_drewN | apply below_drew1) | exact HB.out))))
            (case aL => have := LMc5.out; omega)
            intro v503 w7 ho hb hg hat
            rw [← Ny502.out] at ho
            have n0_ := Aside0.mk (hb)
            have n1_ := Aside0.mk (ho)
            clear HB
            clear HO_5
            have HB := n0_
            have HO504 := n1_
            clear n0_ n1_
            clear ho hb hg hat
            refine hK.out _ _ ⟨((HB.out.cell (World.block_lt_of_cell? w _ hw500_0)).trans hw500_0), ((HB.out.cell (World.block_lt_of_cell? w _ hw500_1)).trans hw500_1), ((HB.out.cell (World.block_lt_of_cell? w _ hw501_0)).trans hw501_0), ((HB.out.cell (World.block_lt_of_cell? w _ hw501_1)).trans hw501_1)⟩ (fun hHeld => ?_)
            clear hK K
            refine norm_ (a' := ?_) ?_ ?_
            rotate_left
            · show Act.put _ (some 30) _ = _
              simp only [Act.put, List.setIfInBounds_toArray, List.set_cons_zero, List.set_cons_succ, i64_w, i32_w]
              rfl
            refine pure_ (i := 18) (N := some 5) (v := ?_) (a' := ?_) #[true, true, true, true, true, true, true, true, true, true, true, true, true, true, true, true, true, true, true] rfl rfl (any_of HT_.out (by kernel_rfl)) (fun _ _ _ h => h) (Or.inl ⟨by rfl, ?_⟩) ?_ ?_
            rotate_left
            · intro w'
              go_simp
              with_reducible rfl
            rotate_left
            · simp only [Act.put, List.setIfInBounds_toArray, List.set_cons_zero, List.set_cons_succ, i64_w, i32_w]
              rfl
            refine done_ (done_of HT_.out (by kernel_rfl)) ?_
            try go_wp2
            go_roundg k1
            case measure => have := HK1.out; omega
            case rel => exact ⟨(y502), (wrap64 (x6_1 + 1)), (by first | rfl | (simp; done) | (simp [*]; done)), H', ⟨by have := HK1.out; omega⟩, ⟨by (with_reducible repeat (first | apply Kd.R_alloc | apply Kd.R_drewN | apply Kd.R_drew)); exact HO504.out⟩, ⟨by repeat (first | (with_reducible first | exact HB.out | apply below_alloc | apply pw_below_drewN | apply below_drew1) | exact HB.out)⟩⟩
          · rw [if_neg c5] at H
            exact absurd H (by simp)
        · rw [if_neg c4] at H
          exact absurd H (by simp)
      · rw [if_neg c3] at H
        have c3b0 : decide (x6_1 < (l0.length : Int)) = false := decide_eq_false c3
        clear c3
        obtain rfl := Option.some.inj H
        go_wp2
        go_ret
        exact ⟨_, by first | rfl | (simp [errW_none, errW_some] <;> rfl) | (simp [*, errW_none, errW_some] <;> rfl), by (with_reducible repeat (first | apply Kd.R_alloc | apply Kd.R_drewN | apply Kd.R_drew)); exact HO_5.out, by repeat (first | (with_reducible first | exact HB.out | apply below_alloc | apply pw_below_drewN | apply below_drew1) | exact HB.out)⟩

end Go.Proofs.Ytbfgblfhonpgaaa.X
