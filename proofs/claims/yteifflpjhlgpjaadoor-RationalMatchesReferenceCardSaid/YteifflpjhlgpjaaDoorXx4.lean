-- Written by a program of mine (wip/tools/xprint.py) over the kit's print.py: printed functions and hand-proved ones side by side.
import Derived.Test.YteifflpjhlgpjaaDoorXx0
import Derived.Test.YteifflpjhlgpjaaDoorXx1
import Derived.Test.YteifflpjhlgpjaaDoorXx2
import Derived.Test.YteifflpjhlgpjaaDoorXx3
namespace Go.Proofs.YteifflpjhlgpjaaDoor.X
open Go.RowKit Go.Proofs.YteifflpjhlgpjaaDoorW.PrintWords Go.Proofs.YteifflpjhlgpjaaDoorW.PrintLast Go.Proofs.YteifflpjhlgpjaaDoorW.PrintMore
attribute [local go_sem] max2_int min2_int max_two min_two max_three min_three max_four min_four   -- for this text's walks alone
set_option linter.unusedVariables false
set_option linter.unusedSimpArgs false

attribute [local go_sem high] eqA24
/-! ### rational_Compare: function 27 -/
def rational_Compare.j0 : Nat → Bool → Int → Int → Int → Int → Option (Int × Int)
 | 0, _, _, _, _, _ => none
 | k + 1, x15, x110000, x110001, x111000, x111001 => if x15 = true then (some (0, 1)) else (if (wrap64 (x110000 * x111001)) < (wrap64 (x111000 * x110001)) then (some ((-1), 0)) else (if (wrap64 (x110000 * x111001)) > (wrap64 (x111000 * x110001)) then (some (1, 0)) else (some (0, 0))))
def rational_Compare.f (k : Nat) (a0_0 : Int) (a0_1 : Int) (a1_0 : Int) (a1_1 : Int) : Option (Int × Int) := (rational_Valid.f a0_0 a0_1).bind fun t111 => (if t111 = true then ((rational_Valid.f a1_0 a1_1).bind fun t112 => (rational_Compare.j0 k (!t112) a0_0 a0_1 a1_0 a1_1)) else (rational_Compare.j0 k true a0_0 a0_1 a1_0 a1_1))
theorem rational_Compare.mono_l : ∀ k, (∀ y0 y1 y2 y3 y4, LeO (rational_Compare.j0 k y0 y1 y2 y3 y4) (rational_Compare.j0 (k + 1) y0 y1 y2 y3 y4))
 | 0 => fun _ _ _ _ _ r h => by simp [rational_Compare.j0] at h
 | k + 1 => by
  have ih0 := rational_Compare.mono_l k
  ·intro y0 y1 y2 y3 y4
   unfold rational_Compare.j0
   repeat' first
   | (with_reducible exact ih0 _ _ _ _ _)
   | (with_reducible exact LeO.refl _)
   | (with_reducible exact LeO.none _)
   | (with_reducible refine LeO.ite ?_ ?_)
   | (with_reducible refine LeO.bind ?_ (fun _ => ?_))
   | exact ih0 _ _ _ _ _
   | exact LeO.none _
   | refine LeO.ite ?_ ?_
   | refine LeO.bind ?_ (fun _ => ?_)
theorem rational_Compare.mono : ∀ a0 a1 a2 a3 k, LeO (rational_Compare.f k a0 a1 a2 a3) (rational_Compare.f (k + 1) a0 a1 a2 a3) := by
 intro a0 a1 a2 a3 k
 have ih0 := rational_Compare.mono_l k
 unfold rational_Compare.f
 repeat' first
   | (with_reducible exact ih0 _ _ _ _ _)
   | (with_reducible exact LeO.refl _)
   | (with_reducible exact LeO.none _)
   | (with_reducible refine LeO.ite ?_ ?_)
   | (with_reducible refine LeO.bind ?_ (fun _ => ?_))
   | exact ih0 _ _ _ _ _
   | exact LeO.none _
   | refine LeO.ite ?_ ?_
   | refine LeO.bind ?_ (fun _ => ?_)
set_option maxHeartbeats 8000000 in
set_option maxRecDepth 100000 in
theorem rational_Compare.calls (k : Nat) (a0_0 : Int) (a0_1 : Int) (a1_0 : Int) (a1_1 : Int) (r1 : Int) (r2 : Int) (w : World) (h : rational_Compare.f k a0_0 a0_1 a1_0 a1_1 = some (r1, r2)) :
  Calls Tryd.prog 27 #[.agg #[.int .i64 a0_0, .int .i64 a0_1], .agg #[.int .i64 a1_0, .int .i64 a1_1]] w fun e w' => e = .returned (.tuple #[.int .i64 r1, .int .i64 r2]) ∧ Below w.heap.size w w' := by
 have hu24 := Tryd.underlying24
 have HB := Aside0.mk (Below.refl w.heap.size w)
 have H : ((rational_Valid.f a0_0 a0_1).bind fun t111 => (if t111 = true then ((rational_Valid.f a1_0 a1_1).bind fun t112 => (rational_Compare.j0 k (!t112) a0_0 a0_1 a1_0 a1_1)) else (rational_Compare.j0 k true a0_0 a0_1 a1_0 a1_1))) = some (r1, r2) := h
 clear h
 have HC3 := Aside0.mk H
 clear H
 go_enter Tryd.func27, Tryd.ntmps27
 go_upto_region 1 with (first | ((with_reducible refine gate_dst (N := 2) rfl ?_); refine box_event ?hg (N := 2) ?hd (cs := #[.int .i64 a0_0, .int .i64 a0_1]) (t := 24) ?hr ?_; (case hd => rfl); (case hg => rfl); (case hr => first | (go_simp; done) | (go_simp; rfl)); intro gb109 hg w4 hbox hb; have n0_ := Aside0.mk (bT (by repeat (first | (with_reducible first | exact HB.out | apply bA | apply bN | apply b1) | exact HB.out)) hb); have n1_ := Aside0.mk (hbox); have n2_ := Aside0.mk ((by rw [hg]; exact (bZ (by repeat (first | (with_reducible first | exact HB.out | apply bA | apply bN | apply b1) | exact HB.out))) : w.heap.size ≤ gb109)); have n3_ := n2_; clear HB; have HB := n0_; have BK109 := n1_; have GW109 := n2_; have GE109 := n3_; clear n0_ n1_ n2_ n3_; clear hb hbox hg) | ((with_reducible refine gate_dst (N := 3) rfl ?_); refine box_event ?hg (N := 3) ?hd (cs := #[.int .i64 a1_0, .int .i64 a1_1]) (t := 24) ?hr ?_; (case hd => rfl); (case hg => rfl); (case hr => first | (go_simp; done) | (go_simp; rfl)); intro gb110 hg w5 hbox hb; have n0_ := Aside0.mk (kB (g := gb109) (o := .cells #[.int .i64 a0_0, .int .i64 a0_1] 24 (0, 0)) (by (with_reducible repeat (first | refine kN ?_ _ | refine kD ?_ | refine kA ?_ _)); exact BK109.out) hb); have n1_ := Aside0.mk (bT (by repeat (first | (with_reducible first | exact HB.out | apply bA | apply bN | apply b1 | refine bS ?_ GE109.out) | exact HB.out)) hb); have n2_ := Aside0.mk (hbox); have n3_ := Aside0.mk ((by rw [hg]; exact (bZ (by repeat (first | (with_reducible first | exact HB.out | apply bA | apply bN | apply b1 | refine bS ?_ GE109.out) | exact HB.out))) : w.heap.size ≤ gb110)); have n4_ := n3_; have n5_ := Aside0.mk ((by rw [hg]; exact Nat.ne_of_lt (blk_lt (g := gb109) (o := .cells #[.int .i64 a0_0, .int .i64 a0_1] 24 (0, 0)) (by (with_reducible repeat (first | refine kN ?_ _ | refine kD ?_ | refine kA ?_ _)); exact BK109.out)) : gb109 ≠ gb110)); have n6_ := Aside0.mk n5_.out.symm; clear BK109; clear HB; have BK109 := n0_; have HB := n1_; have BK110 := n2_; have GW110 := n3_; have GE110 := n4_; have NB109_110 := n5_; have NB110_109 := n6_; clear n0_ n1_ n2_ n3_ n4_ n5_ n6_; clear hb hbox hg))
 repeat (go_quiet (first | ((with_reducible refine gate_dst (N := 2) rfl ?_); refine box_event ?hg (N := 2) ?hd (cs := #[.int .i64 a0_0, .int .i64 a0_1]) (t := 24) ?hr ?_; (case hd => rfl); (case hg => rfl); (case hr => first | (go_simp; done) | (go_simp; rfl)); intro gb109 hg w4 hbox hb; have n0_ := Aside0.mk (bT (by repeat (first | (with_reducible first | exact HB.out | apply bA | apply bN | apply b1) | exact HB.out)) hb); have n1_ := Aside0.mk (hbox); have n2_ := Aside0.mk ((by rw [hg]; exact (bZ (by repeat (first | (with_reducible first | exact HB.out | apply bA | apply bN | apply b1) | exact HB.out))) : w.heap.size ≤ gb109)); have n3_ := n2_; clear HB; have HB := n0_; have BK109 := n1_; have GW109 := n2_; have GE109 := n3_; clear n0_ n1_ n2_ n3_; clear hb hbox hg) | ((with_reducible refine gate_dst (N := 3) rfl ?_); refine box_event ?hg (N := 3) ?hd (cs := #[.int .i64 a1_0, .int .i64 a1_1]) (t := 24) ?hr ?_; (case hd => rfl); (case hg => rfl); (case hr => first | (go_simp; done) | (go_simp; rfl)); intro gb110 hg w5 hbox hb; have n0_ := Aside0.mk (kB (g := gb109) (o := .cells #[.int .i64 a0_0, .int .i64 a0_1] 24 (0, 0)) (by (with_reducible repeat (first | refine kN ?_ _ | refine kD ?_ | refine kA ?_ _)); exact BK109.out) hb); have n1_ := Aside0.mk (bT (by repeat (first | (with_reducible first | exact HB.out | apply bA | apply bN | apply b1 | refine bS ?_ GE109.out) | exact HB.out)) hb); have n2_ := Aside0.mk (hbox); have n3_ := Aside0.mk ((by rw [hg]; exact (bZ (by repeat (first | (with_reducible first | exact HB.out | apply bA | apply bN | apply b1 | refine bS ?_ GE109.out) | exact HB.out))) : w.heap.size ≤ gb110)); have n4_ := n3_; have n5_ := Aside0.mk ((by rw [hg]; exact Nat.ne_of_lt (blk_lt (g := gb109) (o := .cells #[.int .i64 a0_0, .int .i64 a0_1] 24 (0, 0)) (by (with_reducible repeat (first | refine kN ?_ _ | refine kD ?_ | refine kA ?_ _)); exact BK109.out)) : gb109 ≠ gb110)); have n6_ := Aside0.mk n5_.out.symm; clear BK109; clear HB; have BK109 := n0_; have HB := n1_; have BK110 := n2_; have GW110 := n3_; have GE110 := n4_; have NB109_110 := n5_; have NB110_109 := n6_; clear n0_ n1_ n2_ n3_ n4_ n5_ n6_; clear hb hbox hg)); go_upto_region 1 with (first | ((with_reducible refine gate_dst (N := 2) rfl ?_); refine box_event ?hg (N := 2) ?hd (cs := #[.int .i64 a0_0, .int .i64 a0_1]) (t := 24) ?hr ?_; (case hd => rfl); (case hg => rfl); (case hr => first | (go_simp; done) | (go_simp; rfl)); intro gb109 hg w4 hbox hb; have n0_ := Aside0.mk (bT (by repeat (first | (with_reducible first | exact HB.out | apply bA | apply bN | apply b1) | exact HB.out)) hb); have n1_ := Aside0.mk (hbox); have n2_ := Aside0.mk ((by rw [hg]; exact (bZ (by repeat (first | (with_reducible first | exact HB.out | apply bA | apply bN | apply b1) | exact HB.out))) : w.heap.size ≤ gb109)); have n3_ := n2_; clear HB; have HB := n0_; have BK109 := n1_; have GW109 := n2_; have GE109 := n3_; clear n0_ n1_ n2_ n3_; clear hb hbox hg) | ((with_reducible refine gate_dst (N := 3) rfl ?_); refine box_event ?hg (N := 3) ?hd (cs := #[.int .i64 a1_0, .int .i64 a1_1]) (t := 24) ?hr ?_; (case hd => rfl); (case hg => rfl); (case hr => first | (go_simp; done) | (go_simp; rfl)); intro gb110 hg w5 hbox hb; have n0_ := Aside0.mk (kB (g := gb109) (o := .cells #[.int .i64 a0_0, .int .i64 a0_1] 24 (0, 0)) (by (with_reducible repeat (first | refine kN ?_ _ | refine kD ?_ | refine kA ?_ _)); exact BK109.out) hb); have n1_ := Aside0.mk (bT (by repeat (first | (with_reducible first | exact HB.out | apply bA | apply bN | apply b1 | refine bS ?_ GE109.out) | exact HB.out)) hb); have n2_ := Aside0.mk (hbox); have n3_ := Aside0.mk ((by rw [hg]; exact (bZ (by repeat (first | (with_reducible first | exact HB.out | apply bA | apply bN | apply b1 | refine bS ?_ GE109.out) | exact HB.out))) : w.heap.size ≤ gb110)); have n4_ := n3_; have n5_ := Aside0.mk ((by rw [hg]; exact Nat.ne_of_lt (blk_lt (g := gb109) (o := .cells #[.int .i64 a0_0, .int .i64 a0_1] 24 (0, 0)) (by (with_reducible repeat (first | refine kN ?_ _ | refine kD ?_ | refine kA ?_ _)); exact BK109.out)) : gb109 ≠ gb110)); have n6_ := Aside0.mk n5_.out.symm; clear BK109; clear HB; have BK109 := n0_; have HB := n1_; have BK110 := n2_; have GW110 := n3_; have GE110 := n4_; have NB109_110 := n5_; have NB110_109 := n6_; clear n0_ n1_ n2_ n3_ n4_ n5_ n6_; clear hb hbox hg)))
 (try simp only [Act.put, List.setIfInBounds_toArray, List.set_cons_zero, List.set_cons_succ])
 go_cut [15] (fun v15 wc => ∃ (kq : Nat) (x15_2 : Bool), v15 = .bool x15_2 ∧ Aside0 (rational_Compare.j0 kq x15_2 a0_0 a0_1 a1_0 a1_1 = some (r1, r2)) ∧ Aside0 (kq ≤ k) ∧ Aside0 (wc.heap[gb109]? = some (.cells #[.int .i64 a0_0, .int .i64 a0_1] 24 (0, 0))) ∧ Aside0 (wc.heap[gb110]? = some (.cells #[.int .i64 a1_0, .int .i64 a1_1] 24 (0, 0))) ∧ Aside0 (Below w.heap.size w wc))
 case first =>
  have H := HC3.out
  clear HC3
  replace H := Option.bind_eq_some_iff.mp H
  obtain ⟨t111, A60, H⟩ := H
  replace H : (if t111 = true then ((rational_Valid.f a1_0 a1_1).bind fun t112 => (rational_Compare.j0 k (!t112) a0_0 a0_1 a1_0 a1_1)) else (rational_Compare.j0 k true a0_0 a0_1 a1_0 a1_1)) = some (r1, r2) := H
  have A6 := Aside0.mk A60
  clear A60
  by_cases c7 : t111 = true
  ·subst c7
   have H1 : ((rational_Valid.f a1_0 a1_1).bind fun t112 => (rational_Compare.j0 k (!t112) a0_0 a0_1 a1_0 a1_1)) = some (r1, r2) := by rw [if_pos rfl] at H; exact H
   clear H
   have H := H1
   clear H1
   replace H := Option.bind_eq_some_iff.mp H
   obtain ⟨t112, A80, H⟩ := H
   replace H : (rational_Compare.j0 k (!t112) a0_0 a0_1 a1_0 a1_1) = some (r1, r2) := H
   have A8 := Aside0.mk A80
   clear A80
   have H' := Aside0.mk H
   clear H
   have hnb9 := NB109_110.out
   have hnc9 := NB110_109.out
   have hcz10_0 : w5.cell? ⟨gb109, 0, none⟩ = some (.int .i64 a0_0) := (kC BK109.out 0).trans rfl
   have hcz10_1 : w5.cell? ⟨gb109, 1, none⟩ = some (.int .i64 a0_1) := (kC BK109.out 1).trans rfl
   have hfz10_0 := blk_frozen BK109.out 0
   have hfz10_1 := blk_frozen BK109.out 1
   go_wp2_with (first | (go_at_call 12; (with_reducible refine (rational_Valid.calls a0_0 a0_1 true _ A6.out).mono ?_); rintro e w11 ⟨rfl, hb⟩; have n0_ := Aside0.mk (kB (g := gb109) (o := .cells #[.int .i64 a0_0, .int .i64 a0_1] 24 (0, 0)) (by (with_reducible repeat (first | refine kN ?_ _ | refine kD ?_ | refine kA ?_ _)); exact BK109.out) hb); have n1_ := Aside0.mk (kB (g := gb110) (o := .cells #[.int .i64 a1_0, .int .i64 a1_1] 24 (0, 0)) (by (with_reducible repeat (first | refine kN ?_ _ | refine kD ?_ | refine kA ?_ _)); exact BK110.out) hb); have n2_ := Aside0.mk (bT (by repeat (first | (with_reducible first | exact HB.out | apply bA | apply bN | apply b1 | refine bS ?_ GE109.out | refine bS ?_ GE110.out) | exact HB.out)) hb); clear BK109; clear BK110; clear HB; have BK109 := n0_; have BK110 := n1_; have HB := n2_; clear n0_ n1_ n2_; (try clear hb); (try clear hb2); (try clear hk); (try clear hi); have hcz12_0 : w11.cell? ⟨gb110, 0, none⟩ = some (.int .i64 a1_0) := (kC BK110.out 0).trans rfl; have hcz12_1 : w11.cell? ⟨gb110, 1, none⟩ = some (.int .i64 a1_1) := (kC BK110.out 1).trans rfl; have hfz12_0 := blk_frozen BK110.out 0; have hfz12_1 := blk_frozen BK110.out 1) | (go_at_call 12; (with_reducible refine (rational_Valid.calls a1_0 a1_1 t112 _ A8.out).mono ?_); rintro e w13 ⟨rfl, hb⟩; have n0_ := Aside0.mk (kB (g := gb109) (o := .cells #[.int .i64 a0_0, .int .i64 a0_1] 24 (0, 0)) (by (with_reducible repeat (first | refine kN ?_ _ | refine kD ?_ | refine kA ?_ _)); exact BK109.out) hb); have n1_ := Aside0.mk (kB (g := gb110) (o := .cells #[.int .i64 a1_0, .int .i64 a1_1] 24 (0, 0)) (by (with_reducible repeat (first | refine kN ?_ _ | refine kD ?_ | refine kA ?_ _)); exact BK110.out) hb); have n2_ := Aside0.mk (bT (by repeat (first | (with_reducible first | exact HB.out | apply bA | apply bN | apply b1 | refine bS ?_ GE109.out | refine bS ?_ GE110.out) | exact HB.out)) hb); clear BK109; clear BK110; clear HB; have BK109 := n0_; have BK110 := n1_; have HB := n2_; clear n0_ n1_ n2_; (try clear hb); (try clear hb2); (try clear hk); (try clear hi)))
   repeat (go_quiet (first | (go_at_call 12; (with_reducible refine (rational_Valid.calls a0_0 a0_1 true _ A6.out).mono ?_); rintro e w11 ⟨rfl, hb⟩; have n0_ := Aside0.mk (kB (g := gb109) (o := .cells #[.int .i64 a0_0, .int .i64 a0_1] 24 (0, 0)) (by (with_reducible repeat (first | refine kN ?_ _ | refine kD ?_ | refine kA ?_ _)); exact BK109.out) hb); have n1_ := Aside0.mk (kB (g := gb110) (o := .cells #[.int .i64 a1_0, .int .i64 a1_1] 24 (0, 0)) (by (with_reducible repeat (first | refine kN ?_ _ | refine kD ?_ | refine kA ?_ _)); exact BK110.out) hb); have n2_ := Aside0.mk (bT (by repeat (first | (with_reducible first | exact HB.out | apply bA | apply bN | apply b1 | refine bS ?_ GE109.out | refine bS ?_ GE110.out) | exact HB.out)) hb); clear BK109; clear BK110; clear HB; have BK109 := n0_; have BK110 := n1_; have HB := n2_; clear n0_ n1_ n2_; (try clear hb); (try clear hb2); (try clear hk); (try clear hi); have hcz12_0 : w11.cell? ⟨gb110, 0, none⟩ = some (.int .i64 a1_0) := (kC BK110.out 0).trans rfl; have hcz12_1 : w11.cell? ⟨gb110, 1, none⟩ = some (.int .i64 a1_1) := (kC BK110.out 1).trans rfl; have hfz12_0 := blk_frozen BK110.out 0; have hfz12_1 := blk_frozen BK110.out 1) | (go_at_call 12; (with_reducible refine (rational_Valid.calls a1_0 a1_1 t112 _ A8.out).mono ?_); rintro e w13 ⟨rfl, hb⟩; have n0_ := Aside0.mk (kB (g := gb109) (o := .cells #[.int .i64 a0_0, .int .i64 a0_1] 24 (0, 0)) (by (with_reducible repeat (first | refine kN ?_ _ | refine kD ?_ | refine kA ?_ _)); exact BK109.out) hb); have n1_ := Aside0.mk (kB (g := gb110) (o := .cells #[.int .i64 a1_0, .int .i64 a1_1] 24 (0, 0)) (by (with_reducible repeat (first | refine kN ?_ _ | refine kD ?_ | refine kA ?_ _)); exact BK110.out) hb); have n2_ := Aside0.mk (bT (by repeat (first | (with_reducible first | exact HB.out | apply bA | apply bN | apply b1 | refine bS ?_ GE109.out | refine bS ?_ GE110.out) | exact HB.out)) hb); clear BK109; clear BK110; clear HB; have BK109 := n0_; have BK110 := n1_; have HB := n2_; clear n0_ n1_ n2_; (try clear hb); (try clear hb2); (try clear hk); (try clear hi))); try go_wp2_with (first | (go_at_call 12; (with_reducible refine (rational_Valid.calls a0_0 a0_1 true _ A6.out).mono ?_); rintro e w11 ⟨rfl, hb⟩; have n0_ := Aside0.mk (kB (g := gb109) (o := .cells #[.int .i64 a0_0, .int .i64 a0_1] 24 (0, 0)) (by (with_reducible repeat (first | refine kN ?_ _ | refine kD ?_ | refine kA ?_ _)); exact BK109.out) hb); have n1_ := Aside0.mk (kB (g := gb110) (o := .cells #[.int .i64 a1_0, .int .i64 a1_1] 24 (0, 0)) (by (with_reducible repeat (first | refine kN ?_ _ | refine kD ?_ | refine kA ?_ _)); exact BK110.out) hb); have n2_ := Aside0.mk (bT (by repeat (first | (with_reducible first | exact HB.out | apply bA | apply bN | apply b1 | refine bS ?_ GE109.out | refine bS ?_ GE110.out) | exact HB.out)) hb); clear BK109; clear BK110; clear HB; have BK109 := n0_; have BK110 := n1_; have HB := n2_; clear n0_ n1_ n2_; (try clear hb); (try clear hb2); (try clear hk); (try clear hi); have hcz12_0 : w11.cell? ⟨gb110, 0, none⟩ = some (.int .i64 a1_0) := (kC BK110.out 0).trans rfl; have hcz12_1 : w11.cell? ⟨gb110, 1, none⟩ = some (.int .i64 a1_1) := (kC BK110.out 1).trans rfl; have hfz12_0 := blk_frozen BK110.out 0; have hfz12_1 := blk_frozen BK110.out 1) | (go_at_call 12; (with_reducible refine (rational_Valid.calls a1_0 a1_1 t112 _ A8.out).mono ?_); rintro e w13 ⟨rfl, hb⟩; have n0_ := Aside0.mk (kB (g := gb109) (o := .cells #[.int .i64 a0_0, .int .i64 a0_1] 24 (0, 0)) (by (with_reducible repeat (first | refine kN ?_ _ | refine kD ?_ | refine kA ?_ _)); exact BK109.out) hb); have n1_ := Aside0.mk (kB (g := gb110) (o := .cells #[.int .i64 a1_0, .int .i64 a1_1] 24 (0, 0)) (by (with_reducible repeat (first | refine kN ?_ _ | refine kD ?_ | refine kA ?_ _)); exact BK110.out) hb); have n2_ := Aside0.mk (bT (by repeat (first | (with_reducible first | exact HB.out | apply bA | apply bN | apply b1 | refine bS ?_ GE109.out | refine bS ?_ GE110.out) | exact HB.out)) hb); clear BK109; clear BK110; clear HB; have BK109 := n0_; have BK110 := n1_; have HB := n2_; clear n0_ n1_ n2_; (try clear hb); (try clear hb2); (try clear hk); (try clear hi))))
   go_meet
   case rel => exact ⟨_, (!t112), (by first | rfl | (simp; done) | (simp [*]; done)), H', ⟨by first | omega | exact Nat.le_refl _⟩, ⟨by (with_reducible repeat (first | refine kN ?_ _ | refine kD ?_ | refine kA ?_ _)); exact BK109.out⟩, ⟨by (with_reducible repeat (first | refine kN ?_ _ | refine kD ?_ | refine kA ?_ _)); exact BK110.out⟩, ⟨by repeat (first | (with_reducible first | exact HB.out | apply bA | apply bN | apply b1 | refine bS ?_ GE109.out | refine bS ?_ GE110.out) | exact HB.out)⟩⟩
  ·replace c7 := Bool.eq_false_iff.mpr c7
   subst c7
   have H1 : (rational_Compare.j0 k true a0_0 a0_1 a1_0 a1_1) = some (r1, r2) := by rw [if_neg (show ¬ (false = true) by decide)] at H; exact H
   clear H
   have H := H1
   clear H1
   have H' := Aside0.mk H
   clear H
   have hnb14 := NB109_110.out
   have hnc14 := NB110_109.out
   have hcz15_0 : w5.cell? ⟨gb109, 0, none⟩ = some (.int .i64 a0_0) := (kC BK109.out 0).trans rfl
   have hcz15_1 : w5.cell? ⟨gb109, 1, none⟩ = some (.int .i64 a0_1) := (kC BK109.out 1).trans rfl
   have hfz15_0 := blk_frozen BK109.out 0
   have hfz15_1 := blk_frozen BK109.out 1
   go_wp2_with (first | (go_at_call 12; (with_reducible refine (rational_Valid.calls a0_0 a0_1 false _ A6.out).mono ?_); rintro e w16 ⟨rfl, hb⟩; have n0_ := Aside0.mk (kB (g := gb109) (o := .cells #[.int .i64 a0_0, .int .i64 a0_1] 24 (0, 0)) (by (with_reducible repeat (first | refine kN ?_ _ | refine kD ?_ | refine kA ?_ _)); exact BK109.out) hb); have n1_ := Aside0.mk (kB (g := gb110) (o := .cells #[.int .i64 a1_0, .int .i64 a1_1] 24 (0, 0)) (by (with_reducible repeat (first | refine kN ?_ _ | refine kD ?_ | refine kA ?_ _)); exact BK110.out) hb); have n2_ := Aside0.mk (bT (by repeat (first | (with_reducible first | exact HB.out | apply bA | apply bN | apply b1 | refine bS ?_ GE109.out | refine bS ?_ GE110.out) | exact HB.out)) hb); clear BK109; clear BK110; clear HB; have BK109 := n0_; have BK110 := n1_; have HB := n2_; clear n0_ n1_ n2_; (try clear hb); (try clear hb2); (try clear hk); (try clear hi)))
   repeat (go_quiet (first | (go_at_call 12; (with_reducible refine (rational_Valid.calls a0_0 a0_1 false _ A6.out).mono ?_); rintro e w16 ⟨rfl, hb⟩; have n0_ := Aside0.mk (kB (g := gb109) (o := .cells #[.int .i64 a0_0, .int .i64 a0_1] 24 (0, 0)) (by (with_reducible repeat (first | refine kN ?_ _ | refine kD ?_ | refine kA ?_ _)); exact BK109.out) hb); have n1_ := Aside0.mk (kB (g := gb110) (o := .cells #[.int .i64 a1_0, .int .i64 a1_1] 24 (0, 0)) (by (with_reducible repeat (first | refine kN ?_ _ | refine kD ?_ | refine kA ?_ _)); exact BK110.out) hb); have n2_ := Aside0.mk (bT (by repeat (first | (with_reducible first | exact HB.out | apply bA | apply bN | apply b1 | refine bS ?_ GE109.out | refine bS ?_ GE110.out) | exact HB.out)) hb); clear BK109; clear BK110; clear HB; have BK109 := n0_; have BK110 := n1_; have HB := n2_; clear n0_ n1_ n2_; (try clear hb); (try clear hb2); (try clear hk); (try clear hi))); try go_wp2_with (first | (go_at_call 12; (with_reducible refine (rational_Valid.calls a0_0 a0_1 false _ A6.out).mono ?_); rintro e w16 ⟨rfl, hb⟩; have n0_ := Aside0.mk (kB (g := gb109) (o := .cells #[.int .i64 a0_0, .int .i64 a0_1] 24 (0, 0)) (by (with_reducible repeat (first | refine kN ?_ _ | refine kD ?_ | refine kA ?_ _)); exact BK109.out) hb); have n1_ := Aside0.mk (kB (g := gb110) (o := .cells #[.int .i64 a1_0, .int .i64 a1_1] 24 (0, 0)) (by (with_reducible repeat (first | refine kN ?_ _ | refine kD ?_ | refine kA ?_ _)); exact BK110.out) hb); have n2_ := Aside0.mk (bT (by repeat (first | (with_reducible first | exact HB.out | apply bA | apply bN | apply b1 | refine bS ?_ GE109.out | refine bS ?_ GE110.out) | exact HB.out)) hb); clear BK109; clear BK110; clear HB; have BK109 := n0_; have BK110 := n1_; have HB := n2_; clear n0_ n1_ n2_; (try clear hb); (try clear hb2); (try clear hk); (try clear hi))))
   go_meet
   case rel => exact ⟨_, (true), (by first | rfl | (simp; done) | (simp [*]; done)), H', ⟨by first | omega | exact Nat.le_refl _⟩, ⟨by (with_reducible repeat (first | refine kN ?_ _ | refine kD ?_ | refine kA ?_ _)); exact BK109.out⟩, ⟨by (with_reducible repeat (first | refine kN ?_ _ | refine kD ?_ | refine kA ?_ _)); exact BK110.out⟩, ⟨by repeat (first | (with_reducible first | exact HB.out | apply bA | apply bN | apply b1 | refine bS ?_ GE109.out | refine bS ?_ GE110.out) | exact HB.out)⟩⟩
 case rest =>
  clear HC3
  try clear c1
  try clear c2
  try clear p2
  try clear c7
  try clear c9
  try clear c14
  try clear hcz10_0
  try clear hcz10_1
  try clear hcz12_0
  try clear hcz12_1
  try clear hcz15_0
  try clear hcz15_1
  try clear hfz10_0
  try clear hfz10_1
  try clear hfz12_0
  try clear hfz12_1
  try clear hfz15_0
  try clear hfz15_1
  obtain ⟨kq, x15_2, rfl, HA, HJ2, BK109, BK110, HB⟩ := hcut
  cases kq with
  | zero => exact absurd HA.out (by simp [rational_Compare.j0])
  | succ kj2 =>
   have H := HA.out
   clear HA
   simp only [rational_Compare.j0] at H
   by_cases c17 : x15_2 = true
   ·subst c17
    have H1 : (some (0, 1)) = some (r1, r2) := by rw [if_pos rfl] at H; exact H
    clear H
    have H := H1
    clear H1
    simp only [Option.some.injEq, Prod.mk.injEq] at H
    obtain ⟨rfl, rfl⟩ := H
    go_wp2
    repeat (go_quiet (fail); try go_wp2)
    go_ret2
    exact ⟨by first | rfl | (simp [errW_none, errW_some] <;> rfl) | (simp [*, errW_none, errW_some] <;> rfl), by repeat (first | (with_reducible first | exact HB.out | apply bA | apply bN | apply b1 | refine bS ?_ GE109.out | refine bS ?_ GE110.out) | exact HB.out)⟩
   ·replace c17 := Bool.eq_false_iff.mpr c17
    subst c17
    have H1 : (if (wrap64 (a0_0 * a1_1)) < (wrap64 (a1_0 * a0_1)) then (some ((-1), 0)) else (if (wrap64 (a0_0 * a1_1)) > (wrap64 (a1_0 * a0_1)) then (some (1, 0)) else (some (0, 0)))) = some (r1, r2) := by rw [if_neg (show ¬ (false = true) by decide)] at H; exact H
    clear H
    have H := H1
    clear H1
    by_cases c18 : (wrap64 (a0_0 * a1_1)) < (wrap64 (a1_0 * a0_1))
    ·rw [if_pos c18] at H
     have c18b0 : decide ((wrap64 (a0_0 * a1_1)) < (wrap64 (a1_0 * a0_1))) = true := dT c18
     clear c18
     simp only [Option.some.injEq, Prod.mk.injEq] at H
     obtain ⟨rfl, rfl⟩ := H
     have hnb19 := NB109_110.out
     have hnc19 := NB110_109.out
     have hcz20_0 : wc.cell? ⟨gb109, 0, none⟩ = some (.int .i64 a0_0) := (kC BK109.out 0).trans rfl
     have hcz20_1 : wc.cell? ⟨gb109, 1, none⟩ = some (.int .i64 a0_1) := (kC BK109.out 1).trans rfl
     have hfz20_0 := blk_frozen BK109.out 0
     have hfz20_1 := blk_frozen BK109.out 1
     have hcz21_0 : wc.cell? ⟨gb110, 0, none⟩ = some (.int .i64 a1_0) := (kC BK110.out 0).trans rfl
     have hcz21_1 : wc.cell? ⟨gb110, 1, none⟩ = some (.int .i64 a1_1) := (kC BK110.out 1).trans rfl
     have hfz21_0 := blk_frozen BK110.out 0
     have hfz21_1 := blk_frozen BK110.out 1
     go_wp2
     repeat (go_quiet (fail); try go_wp2)
     go_ret2
     exact ⟨by first | rfl | (simp [errW_none, errW_some] <;> rfl) | (simp [*, errW_none, errW_some] <;> rfl), by repeat (first | (with_reducible first | exact HB.out | apply bA | apply bN | apply b1 | refine bS ?_ GE109.out | refine bS ?_ GE110.out) | exact HB.out)⟩
    ·rw [if_neg c18] at H
     have c18b0 : decide ((wrap64 (a0_0 * a1_1)) < (wrap64 (a1_0 * a0_1))) = false := dF c18
     clear c18
     by_cases c22 : (wrap64 (a0_0 * a1_1)) > (wrap64 (a1_0 * a0_1))
     ·rw [if_pos c22] at H
      have c22b0 : decide ((wrap64 (a1_0 * a0_1)) < (wrap64 (a0_0 * a1_1))) = true := dT c22
      clear c22
      simp only [Option.some.injEq, Prod.mk.injEq] at H
      obtain ⟨rfl, rfl⟩ := H
      have hnb23 := NB109_110.out
      have hnc23 := NB110_109.out
      have hcz24_0 : wc.cell? ⟨gb109, 0, none⟩ = some (.int .i64 a0_0) := (kC BK109.out 0).trans rfl
      have hcz24_1 : wc.cell? ⟨gb109, 1, none⟩ = some (.int .i64 a0_1) := (kC BK109.out 1).trans rfl
      have hfz24_0 := blk_frozen BK109.out 0
      have hfz24_1 := blk_frozen BK109.out 1
      have hcz25_0 : wc.cell? ⟨gb110, 0, none⟩ = some (.int .i64 a1_0) := (kC BK110.out 0).trans rfl
      have hcz25_1 : wc.cell? ⟨gb110, 1, none⟩ = some (.int .i64 a1_1) := (kC BK110.out 1).trans rfl
      have hfz25_0 := blk_frozen BK110.out 0
      have hfz25_1 := blk_frozen BK110.out 1
      go_wp2
      repeat (go_quiet (fail); try go_wp2)
      go_ret2
      exact ⟨by first | rfl | (simp [errW_none, errW_some] <;> rfl) | (simp [*, errW_none, errW_some] <;> rfl), by repeat (first | (with_reducible first | exact HB.out | apply bA | apply bN | apply b1 | refine bS ?_ GE109.out | refine bS ?_ GE110.out) | exact HB.out)⟩
     ·rw [if_neg c22] at H
      have c22b0 : decide ((wrap64 (a1_0 * a0_1)) < (wrap64 (a0_0 * a1_1))) = false := dF c22
      clear c22
      simp only [Option.some.injEq, Prod.mk.injEq] at H
      obtain ⟨rfl, rfl⟩ := H
      have hnb26 := NB109_110.out
      have hnc26 := NB110_109.out
      have hcz27_0 : wc.cell? ⟨gb109, 0, none⟩ = some (.int .i64 a0_0) := (kC BK109.out 0).trans rfl
      have hcz27_1 : wc.cell? ⟨gb109, 1, none⟩ = some (.int .i64 a0_1) := (kC BK109.out 1).trans rfl
      have hfz27_0 := blk_frozen BK109.out 0
      have hfz27_1 := blk_frozen BK109.out 1
      have hcz28_0 : wc.cell? ⟨gb110, 0, none⟩ = some (.int .i64 a1_0) := (kC BK110.out 0).trans rfl
      have hcz28_1 : wc.cell? ⟨gb110, 1, none⟩ = some (.int .i64 a1_1) := (kC BK110.out 1).trans rfl
      have hfz28_0 := blk_frozen BK110.out 0
      have hfz28_1 := blk_frozen BK110.out 1
      go_wp2
      repeat (go_quiet (fail); try go_wp2)
      go_ret2
      exact ⟨by first | rfl | (simp [errW_none, errW_some] <;> rfl) | (simp [*, errW_none, errW_some] <;> rfl), by repeat (first | (with_reducible first | exact HB.out | apply bA | apply bN | apply b1 | refine bS ?_ GE109.out | refine bS ?_ GE110.out) | exact HB.out)⟩

/-! ### rational_Floor: function 29 -/
def rational_Floor.f (a0_0 : Int) (a0_1 : Int) : Option (Int × Int) := (rational_Valid.f a0_0 a0_1).bind fun t114 => (if t114 = true then (if a0_1 = 0 then (none) else (if a0_0 < 0 then (if (wrap64 ((wrap64 (Int.tdiv a0_0 a0_1)) * a0_1)) = a0_0 then (some (wrap64 (Int.tdiv a0_0 a0_1), 0)) else (some (wrap64 ((wrap64 (Int.tdiv a0_0 a0_1)) - 1), 0))) else (some (wrap64 (Int.tdiv a0_0 a0_1), 0)))) else (some (0, 1)))
set_option maxHeartbeats 8000000 in
set_option maxRecDepth 100000 in
theorem rational_Floor.calls (a0_0 : Int) (a0_1 : Int) (r1 : Int) (r2 : Int) (w : World) (h : rational_Floor.f a0_0 a0_1 = some (r1, r2)) :
  Calls Tryd.prog 29 #[.agg #[.int .i64 a0_0, .int .i64 a0_1]] w fun e w' => e = .returned (.tuple #[.int .i64 r1, .int .i64 r2]) ∧ Below w.heap.size w w' := by
 have hu24 := Tryd.underlying24
 have HB := Aside0.mk (Below.refl w.heap.size w)
 have H : ((rational_Valid.f a0_0 a0_1).bind fun t114 => (if t114 = true then (if a0_1 = 0 then (none) else (if a0_0 < 0 then (if (wrap64 ((wrap64 (Int.tdiv a0_0 a0_1)) * a0_1)) = a0_0 then (some (wrap64 (Int.tdiv a0_0 a0_1), 0)) else (some (wrap64 ((wrap64 (Int.tdiv a0_0 a0_1)) - 1), 0))) else (some (wrap64 (Int.tdiv a0_0 a0_1), 0)))) else (some (0, 1)))) = some (r1, r2) := h
 clear h
 replace H := Option.bind_eq_some_iff.mp H
 obtain ⟨t114, A20, H⟩ := H
 replace H : (if t114 = true then (if a0_1 = 0 then (none) else (if a0_0 < 0 then (if (wrap64 ((wrap64 (Int.tdiv a0_0 a0_1)) * a0_1)) = a0_0 then (some (wrap64 (Int.tdiv a0_0 a0_1), 0)) else (some (wrap64 ((wrap64 (Int.tdiv a0_0 a0_1)) - 1), 0))) else (some (wrap64 (Int.tdiv a0_0 a0_1), 0)))) else (some (0, 1))) = some (r1, r2) := H
 have A2 := Aside0.mk A20
 clear A20
 by_cases c3 : t114 = true
 ·subst c3
  have H1 : (if a0_1 = 0 then (none) else (if a0_0 < 0 then (if (wrap64 ((wrap64 (Int.tdiv a0_0 a0_1)) * a0_1)) = a0_0 then (some (wrap64 (Int.tdiv a0_0 a0_1), 0)) else (some (wrap64 ((wrap64 (Int.tdiv a0_0 a0_1)) - 1), 0))) else (some (wrap64 (Int.tdiv a0_0 a0_1), 0)))) = some (r1, r2) := by rw [if_pos rfl] at H; exact H
  clear H
  have H := H1
  clear H1
  by_cases c4 : a0_1 = 0
  ·rw [if_pos c4] at H
   exact absurd H (by simp)
  ·rw [if_neg c4] at H
   have c4b0 : (a0_1 == 0) = false := beq_eq_false_iff_ne.mpr c4
   have c4b1 : (a0_1 != 0) = true := bne_iff_ne.mpr c4
   by_cases c5 : a0_0 < 0
   ·rw [if_pos c5] at H
    have c5b0 : decide (a0_0 < 0) = true := dT c5
    clear c5
    by_cases c6 : (wrap64 ((wrap64 (Int.tdiv a0_0 a0_1)) * a0_1)) = a0_0
    ·rw [if_pos c6] at H
     have c6b0 : ((wrap64 ((wrap64 (Int.tdiv a0_0 a0_1)) * a0_1)) == a0_0) = true := beq_iff_eq.mpr c6
     have c6b1 : ((wrap64 ((wrap64 (Int.tdiv a0_0 a0_1)) * a0_1)) != a0_0) = false := bne_eq_false_iff_eq.mpr c6
     clear c6
     simp only [Option.some.injEq, Prod.mk.injEq] at H
     obtain ⟨rfl, rfl⟩ := H
     go_enter Tryd.func29, Tryd.ntmps29
     go_wp2_with (first | ((with_reducible refine gate_dst (N := 1) rfl ?_); refine box_event ?hg (N := 1) ?hd (cs := #[.int .i64 a0_0, .int .i64 a0_1]) (t := 24) ?hr ?_; (case hd => rfl); (case hg => rfl); (case hr => first | (go_simp; done) | (go_simp; rfl)); intro gb113 hg w7 hbox hb; have n0_ := Aside0.mk (bT (by repeat (first | (with_reducible first | exact HB.out | apply bA | apply bN | apply b1) | exact HB.out)) hb); have n1_ := Aside0.mk (hbox); have n2_ := Aside0.mk ((by rw [hg]; exact (bZ (by repeat (first | (with_reducible first | exact HB.out | apply bA | apply bN | apply b1) | exact HB.out))) : w.heap.size ≤ gb113)); have n3_ := n2_; clear HB; have HB := n0_; have BK113 := n1_; have GW113 := n2_; have GE113 := n3_; clear n0_ n1_ n2_ n3_; clear hb hbox hg; have hcz8_0 : w7.cell? ⟨gb113, 0, none⟩ = some (.int .i64 a0_0) := (kC BK113.out 0).trans rfl; have hcz8_1 : w7.cell? ⟨gb113, 1, none⟩ = some (.int .i64 a0_1) := (kC BK113.out 1).trans rfl; have hfz8_0 := blk_frozen BK113.out 0; have hfz8_1 := blk_frozen BK113.out 1) | ((with_reducible refine gate_callee (f := 12) rfl ?_); refine goesL_ (some 6) rfl rfl Tryd.func12 (by kernel_rfl) rfl #[.agg #[.int .i64 a0_0, .int .i64 a0_1]] rfl (by (try simp only [List.map_toArray, List.map_cons, List.map_nil]); first | done | rfl | (simp only [List.length_drop, List.length_take]; rfl)) ?_; (with_reducible refine (rational_Valid.calls a0_0 a0_1 true _ A2.out).mono ?_); rintro e w9 ⟨rfl, hb⟩; refine ⟨_, rfl, ?_⟩; have n0_ := Aside0.mk (kB (g := gb113) (o := .cells #[.int .i64 a0_0, .int .i64 a0_1] 24 (0, 0)) (by (with_reducible repeat (first | refine kN ?_ _ | refine kD ?_ | refine kA ?_ _)); exact BK113.out) hb); have n1_ := Aside0.mk (bT (by repeat (first | (with_reducible first | exact HB.out | apply bA | apply bN | apply b1 | refine bS ?_ GE113.out) | exact HB.out)) hb); clear BK113; clear HB; have BK113 := n0_; have HB := n1_; clear n0_ n1_; (try clear hb); (try clear hb2); (try clear hk); (try clear hi); have hcz10_0 : w9.cell? ⟨gb113, 0, none⟩ = some (.int .i64 a0_0) := (kC BK113.out 0).trans rfl; have hcz10_1 : w9.cell? ⟨gb113, 1, none⟩ = some (.int .i64 a0_1) := (kC BK113.out 1).trans rfl; have hfz10_0 := blk_frozen BK113.out 0; have hfz10_1 := blk_frozen BK113.out 1))
     go_ret2
     exact ⟨by first | rfl | (simp [errW_none, errW_some] <;> rfl) | (simp [*, errW_none, errW_some] <;> rfl), by repeat (first | (with_reducible first | exact HB.out | apply bA | apply bN | apply b1 | refine bS ?_ GE113.out) | exact HB.out)⟩
    ·rw [if_neg c6] at H
     have c6b0 : ((wrap64 ((wrap64 (Int.tdiv a0_0 a0_1)) * a0_1)) == a0_0) = false := beq_eq_false_iff_ne.mpr c6
     have c6b1 : ((wrap64 ((wrap64 (Int.tdiv a0_0 a0_1)) * a0_1)) != a0_0) = true := bne_iff_ne.mpr c6
     simp only [Option.some.injEq, Prod.mk.injEq] at H
     obtain ⟨rfl, rfl⟩ := H
     go_enter Tryd.func29, Tryd.ntmps29
     go_wp2_with (first | ((with_reducible refine gate_dst (N := 1) rfl ?_); refine box_event ?hg (N := 1) ?hd (cs := #[.int .i64 a0_0, .int .i64 a0_1]) (t := 24) ?hr ?_; (case hd => rfl); (case hg => rfl); (case hr => first | (go_simp; done) | (go_simp; rfl)); intro gb113 hg w11 hbox hb; have n0_ := Aside0.mk (bT (by repeat (first | (with_reducible first | exact HB.out | apply bA | apply bN | apply b1) | exact HB.out)) hb); have n1_ := Aside0.mk (hbox); have n2_ := Aside0.mk ((by rw [hg]; exact (bZ (by repeat (first | (with_reducible first | exact HB.out | apply bA | apply bN | apply b1) | exact HB.out))) : w.heap.size ≤ gb113)); have n3_ := n2_; clear HB; have HB := n0_; have BK113 := n1_; have GW113 := n2_; have GE113 := n3_; clear n0_ n1_ n2_ n3_; clear hb hbox hg; have hcz12_0 : w11.cell? ⟨gb113, 0, none⟩ = some (.int .i64 a0_0) := (kC BK113.out 0).trans rfl; have hcz12_1 : w11.cell? ⟨gb113, 1, none⟩ = some (.int .i64 a0_1) := (kC BK113.out 1).trans rfl; have hfz12_0 := blk_frozen BK113.out 0; have hfz12_1 := blk_frozen BK113.out 1) | ((with_reducible refine gate_callee (f := 12) rfl ?_); refine goesL_ (some 6) rfl rfl Tryd.func12 (by kernel_rfl) rfl #[.agg #[.int .i64 a0_0, .int .i64 a0_1]] rfl (by (try simp only [List.map_toArray, List.map_cons, List.map_nil]); first | done | rfl | (simp only [List.length_drop, List.length_take]; rfl)) ?_; (with_reducible refine (rational_Valid.calls a0_0 a0_1 true _ A2.out).mono ?_); rintro e w13 ⟨rfl, hb⟩; refine ⟨_, rfl, ?_⟩; have n0_ := Aside0.mk (kB (g := gb113) (o := .cells #[.int .i64 a0_0, .int .i64 a0_1] 24 (0, 0)) (by (with_reducible repeat (first | refine kN ?_ _ | refine kD ?_ | refine kA ?_ _)); exact BK113.out) hb); have n1_ := Aside0.mk (bT (by repeat (first | (with_reducible first | exact HB.out | apply bA | apply bN | apply b1 | refine bS ?_ GE113.out) | exact HB.out)) hb); clear BK113; clear HB; have BK113 := n0_; have HB := n1_; clear n0_ n1_; (try clear hb); (try clear hb2); (try clear hk); (try clear hi); have hcz14_0 : w13.cell? ⟨gb113, 0, none⟩ = some (.int .i64 a0_0) := (kC BK113.out 0).trans rfl; have hcz14_1 : w13.cell? ⟨gb113, 1, none⟩ = some (.int .i64 a0_1) := (kC BK113.out 1).trans rfl; have hfz14_0 := blk_frozen BK113.out 0; have hfz14_1 := blk_frozen BK113.out 1))
     go_ret2
     exact ⟨by first | rfl | (simp [errW_none, errW_some] <;> rfl) | (simp [*, errW_none, errW_some] <;> rfl), by repeat (first | (with_reducible first | exact HB.out | apply bA | apply bN | apply b1 | refine bS ?_ GE113.out) | exact HB.out)⟩
   ·rw [if_neg c5] at H
    have c5b0 : decide (a0_0 < 0) = false := dF c5
    clear c5
    simp only [Option.some.injEq, Prod.mk.injEq] at H
    obtain ⟨rfl, rfl⟩ := H
    go_enter Tryd.func29, Tryd.ntmps29
    go_wp2_with (first | ((with_reducible refine gate_dst (N := 1) rfl ?_); refine box_event ?hg (N := 1) ?hd (cs := #[.int .i64 a0_0, .int .i64 a0_1]) (t := 24) ?hr ?_; (case hd => rfl); (case hg => rfl); (case hr => first | (go_simp; done) | (go_simp; rfl)); intro gb113 hg w15 hbox hb; have n0_ := Aside0.mk (bT (by repeat (first | (with_reducible first | exact HB.out | apply bA | apply bN | apply b1) | exact HB.out)) hb); have n1_ := Aside0.mk (hbox); have n2_ := Aside0.mk ((by rw [hg]; exact (bZ (by repeat (first | (with_reducible first | exact HB.out | apply bA | apply bN | apply b1) | exact HB.out))) : w.heap.size ≤ gb113)); have n3_ := n2_; clear HB; have HB := n0_; have BK113 := n1_; have GW113 := n2_; have GE113 := n3_; clear n0_ n1_ n2_ n3_; clear hb hbox hg; have hcz16_0 : w15.cell? ⟨gb113, 0, none⟩ = some (.int .i64 a0_0) := (kC BK113.out 0).trans rfl; have hcz16_1 : w15.cell? ⟨gb113, 1, none⟩ = some (.int .i64 a0_1) := (kC BK113.out 1).trans rfl; have hfz16_0 := blk_frozen BK113.out 0; have hfz16_1 := blk_frozen BK113.out 1) | ((with_reducible refine gate_callee (f := 12) rfl ?_); refine goesL_ (some 6) rfl rfl Tryd.func12 (by kernel_rfl) rfl #[.agg #[.int .i64 a0_0, .int .i64 a0_1]] rfl (by (try simp only [List.map_toArray, List.map_cons, List.map_nil]); first | done | rfl | (simp only [List.length_drop, List.length_take]; rfl)) ?_; (with_reducible refine (rational_Valid.calls a0_0 a0_1 true _ A2.out).mono ?_); rintro e w17 ⟨rfl, hb⟩; refine ⟨_, rfl, ?_⟩; have n0_ := Aside0.mk (kB (g := gb113) (o := .cells #[.int .i64 a0_0, .int .i64 a0_1] 24 (0, 0)) (by (with_reducible repeat (first | refine kN ?_ _ | refine kD ?_ | refine kA ?_ _)); exact BK113.out) hb); have n1_ := Aside0.mk (bT (by repeat (first | (with_reducible first | exact HB.out | apply bA | apply bN | apply b1 | refine bS ?_ GE113.out) | exact HB.out)) hb); clear BK113; clear HB; have BK113 := n0_; have HB := n1_; clear n0_ n1_; (try clear hb); (try clear hb2); (try clear hk); (try clear hi); have hcz18_0 : w17.cell? ⟨gb113, 0, none⟩ = some (.int .i64 a0_0) := (kC BK113.out 0).trans rfl; have hcz18_1 : w17.cell? ⟨gb113, 1, none⟩ = some (.int .i64 a0_1) := (kC BK113.out 1).trans rfl; have hfz18_0 := blk_frozen BK113.out 0; have hfz18_1 := blk_frozen BK113.out 1))
    go_ret2
    exact ⟨by first | rfl | (simp [errW_none, errW_some] <;> rfl) | (simp [*, errW_none, errW_some] <;> rfl), by repeat (first | (with_reducible first | exact HB.out | apply bA | apply bN | apply b1 | refine bS ?_ GE113.out) | exact HB.out)⟩
 ·replace c3 := Bool.eq_false_iff.mpr c3
  subst c3
  have H1 : (some (0, 1)) = some (r1, r2) := by rw [if_neg (show ¬ (false = true) by decide)] at H; exact H
  clear H
  have H := H1
  clear H1
  simp only [Option.some.injEq, Prod.mk.injEq] at H
  obtain ⟨rfl, rfl⟩ := H
  go_enter Tryd.func29, Tryd.ntmps29
  go_wp2_with (first | ((with_reducible refine gate_dst (N := 1) rfl ?_); refine box_event ?hg (N := 1) ?hd (cs := #[.int .i64 a0_0, .int .i64 a0_1]) (t := 24) ?hr ?_; (case hd => rfl); (case hg => rfl); (case hr => first | (go_simp; done) | (go_simp; rfl)); intro gb113 hg w19 hbox hb; have n0_ := Aside0.mk (bT (by repeat (first | (with_reducible first | exact HB.out | apply bA | apply bN | apply b1) | exact HB.out)) hb); have n1_ := Aside0.mk (hbox); have n2_ := Aside0.mk ((by rw [hg]; exact (bZ (by repeat (first | (with_reducible first | exact HB.out | apply bA | apply bN | apply b1) | exact HB.out))) : w.heap.size ≤ gb113)); have n3_ := n2_; clear HB; have HB := n0_; have BK113 := n1_; have GW113 := n2_; have GE113 := n3_; clear n0_ n1_ n2_ n3_; clear hb hbox hg; have hcz20_0 : w19.cell? ⟨gb113, 0, none⟩ = some (.int .i64 a0_0) := (kC BK113.out 0).trans rfl; have hcz20_1 : w19.cell? ⟨gb113, 1, none⟩ = some (.int .i64 a0_1) := (kC BK113.out 1).trans rfl; have hfz20_0 := blk_frozen BK113.out 0; have hfz20_1 := blk_frozen BK113.out 1) | ((with_reducible refine gate_callee (f := 12) rfl ?_); refine goesL_ (some 6) rfl rfl Tryd.func12 (by kernel_rfl) rfl #[.agg #[.int .i64 a0_0, .int .i64 a0_1]] rfl (by (try simp only [List.map_toArray, List.map_cons, List.map_nil]); first | done | rfl | (simp only [List.length_drop, List.length_take]; rfl)) ?_; (with_reducible refine (rational_Valid.calls a0_0 a0_1 false _ A2.out).mono ?_); rintro e w21 ⟨rfl, hb⟩; refine ⟨_, rfl, ?_⟩; have n0_ := Aside0.mk (kB (g := gb113) (o := .cells #[.int .i64 a0_0, .int .i64 a0_1] 24 (0, 0)) (by (with_reducible repeat (first | refine kN ?_ _ | refine kD ?_ | refine kA ?_ _)); exact BK113.out) hb); have n1_ := Aside0.mk (bT (by repeat (first | (with_reducible first | exact HB.out | apply bA | apply bN | apply b1 | refine bS ?_ GE113.out) | exact HB.out)) hb); clear BK113; clear HB; have BK113 := n0_; have HB := n1_; clear n0_ n1_; (try clear hb); (try clear hb2); (try clear hk); (try clear hi)))
  go_ret2
  exact ⟨by first | rfl | (simp [errW_none, errW_some] <;> rfl) | (simp [*, errW_none, errW_some] <;> rfl), by repeat (first | (with_reducible first | exact HB.out | apply bA | apply bN | apply b1 | refine bS ?_ GE113.out) | exact HB.out)⟩

/-! ### cohousinglaw01_head: function 10 -/
def cohousinglaw01_head.f (k : Nat)  : Option (Bool) := (rational_Make.f 6 (-4)).bind fun bt115 => ((rational_Add.f 1 2 1 3).bind fun bt119 => ((rational_Floor.f (-3) 2).bind fun bt123 => ((rational_Text.f (-3) 4).bind fun bt125 => ((rational_Parse.f (⟨#[54, 47, 52]⟩ : ByteArray)).bind fun bt127 => ((rational_Mul.f 1000000000 1 2 1).bind fun bt131 => ((rational_Div.f 1 2 0 1).bind fun bt135 => ((rational_Compare.f k 1 2 1 3).bind fun bt139 => (if bt115.2.2 = 0 then (if bt119.2.2 = 0 then (if bt123.2 = 0 then (if bt125.2 = 0 then (if bt127.2.2 = 8 then (if bt131.2.2 = 3 then (if bt135.2.2 = 7 then (if bt139.2 = 0 then (if (bt115.1 == (-3) && (bt115.2.1 == 2)) = true then (if (bt119.1 == 5 && (bt119.2.1 == 6)) = true then (if bt123.1 = (-2) then (if bt125.1.toList = ([45, 51, 47, 52] : List UInt8) then (if bt139.1 = 1 then ((rational_Valid.f bt115.1 bt115.2.1).bind fun t141 => (if t141 = true then ((rational_Valid.f 2 4).bind fun t142 => (if t142 = true then (none) else (some true))) else (none))) else (none)) else (none)) else (none)) else (none)) else (none)) else (none)) else (none)) else (none)) else (none)) else (none)) else (none)) else (none)) else (none)))))))))
theorem cohousinglaw01_head.mono : ∀ k, LeO (cohousinglaw01_head.f k ) (cohousinglaw01_head.f (k + 1) ) := by
 intro  k
 unfold cohousinglaw01_head.f
 repeat' first
   | (with_reducible exact rational_Compare.mono _ _ _ _ _)
   | (with_reducible exact LeO.refl _)
   | (with_reducible exact LeO.none _)
   | (with_reducible refine LeO.ite ?_ ?_)
   | (with_reducible refine LeO.bind ?_ (fun _ => ?_))
   | exact rational_Compare.mono _ _ _ _ _
   | exact LeO.none _
   | refine LeO.ite ?_ ?_
   | refine LeO.bind ?_ (fun _ => ?_)
set_option maxHeartbeats 8000000 in
set_option maxRecDepth 100000 in
theorem cohousinglaw01_head.calls (k : Nat)  (r : Bool) (w : World) (hG : GL w) (h : cohousinglaw01_head.f k  = some r) :
  Calls Tryd.prog 10 #[] w fun e w' => e = .returned (.bool r) ∧ Below w.heap.size w w' := by
 have hu24 := Tryd.underlying24
 have HG := Aside0.mk hG
 clear hG
 have HB := Aside0.mk (Below.refl w.heap.size w)
 have H : ((rational_Make.f 6 (-4)).bind fun bt115 => ((rational_Add.f 1 2 1 3).bind fun bt119 => ((rational_Floor.f (-3) 2).bind fun bt123 => ((rational_Text.f (-3) 4).bind fun bt125 => ((rational_Parse.f (⟨#[54, 47, 52]⟩ : ByteArray)).bind fun bt127 => ((rational_Mul.f 1000000000 1 2 1).bind fun bt131 => ((rational_Div.f 1 2 0 1).bind fun bt135 => ((rational_Compare.f k 1 2 1 3).bind fun bt139 => (if bt115.2.2 = 0 then (if bt119.2.2 = 0 then (if bt123.2 = 0 then (if bt125.2 = 0 then (if bt127.2.2 = 8 then (if bt131.2.2 = 3 then (if bt135.2.2 = 7 then (if bt139.2 = 0 then (if (bt115.1 == (-3) && (bt115.2.1 == 2)) = true then (if (bt119.1 == 5 && (bt119.2.1 == 6)) = true then (if bt123.1 = (-2) then (if bt125.1.toList = ([45, 51, 47, 52] : List UInt8) then (if bt139.1 = 1 then ((rational_Valid.f bt115.1 bt115.2.1).bind fun t141 => (if t141 = true then ((rational_Valid.f 2 4).bind fun t142 => (if t142 = true then (none) else (some true))) else (none))) else (none)) else (none)) else (none)) else (none)) else (none)) else (none)) else (none)) else (none)) else (none)) else (none)) else (none)) else (none)) else (none)))))))))) = some r := h
 clear h
 replace H := Option.bind_eq_some_iff.mp H
 obtain ⟨⟨t115, t116, t117⟩, A10, H⟩ := H
 replace H : ((rational_Add.f 1 2 1 3).bind fun bt119 => ((rational_Floor.f (-3) 2).bind fun bt123 => ((rational_Text.f (-3) 4).bind fun bt125 => ((rational_Parse.f (⟨#[54, 47, 52]⟩ : ByteArray)).bind fun bt127 => ((rational_Mul.f 1000000000 1 2 1).bind fun bt131 => ((rational_Div.f 1 2 0 1).bind fun bt135 => ((rational_Compare.f k 1 2 1 3).bind fun bt139 => (if t117 = 0 then (if bt119.2.2 = 0 then (if bt123.2 = 0 then (if bt125.2 = 0 then (if bt127.2.2 = 8 then (if bt131.2.2 = 3 then (if bt135.2.2 = 7 then (if bt139.2 = 0 then (if (t115 == (-3) && (t116 == 2)) = true then (if (bt119.1 == 5 && (bt119.2.1 == 6)) = true then (if bt123.1 = (-2) then (if bt125.1.toList = ([45, 51, 47, 52] : List UInt8) then (if bt139.1 = 1 then ((rational_Valid.f t115 t116).bind fun t141 => (if t141 = true then ((rational_Valid.f 2 4).bind fun t142 => (if t142 = true then (none) else (some true))) else (none))) else (none)) else (none)) else (none)) else (none)) else (none)) else (none)) else (none)) else (none)) else (none)) else (none)) else (none)) else (none)) else (none))))))))) = some r := H
 have A1 := Aside0.mk A10
 clear A10
 replace H := Option.bind_eq_some_iff.mp H
 obtain ⟨⟨t119, t120, t121⟩, A20, H⟩ := H
 replace H : ((rational_Floor.f (-3) 2).bind fun bt123 => ((rational_Text.f (-3) 4).bind fun bt125 => ((rational_Parse.f (⟨#[54, 47, 52]⟩ : ByteArray)).bind fun bt127 => ((rational_Mul.f 1000000000 1 2 1).bind fun bt131 => ((rational_Div.f 1 2 0 1).bind fun bt135 => ((rational_Compare.f k 1 2 1 3).bind fun bt139 => (if t117 = 0 then (if t121 = 0 then (if bt123.2 = 0 then (if bt125.2 = 0 then (if bt127.2.2 = 8 then (if bt131.2.2 = 3 then (if bt135.2.2 = 7 then (if bt139.2 = 0 then (if (t115 == (-3) && (t116 == 2)) = true then (if (t119 == 5 && (t120 == 6)) = true then (if bt123.1 = (-2) then (if bt125.1.toList = ([45, 51, 47, 52] : List UInt8) then (if bt139.1 = 1 then ((rational_Valid.f t115 t116).bind fun t141 => (if t141 = true then ((rational_Valid.f 2 4).bind fun t142 => (if t142 = true then (none) else (some true))) else (none))) else (none)) else (none)) else (none)) else (none)) else (none)) else (none)) else (none)) else (none)) else (none)) else (none)) else (none)) else (none)) else (none)))))))) = some r := H
 have A2 := Aside0.mk A20
 clear A20
 replace H := Option.bind_eq_some_iff.mp H
 obtain ⟨⟨t123, t124⟩, A30, H⟩ := H
 replace H : ((rational_Text.f (-3) 4).bind fun bt125 => ((rational_Parse.f (⟨#[54, 47, 52]⟩ : ByteArray)).bind fun bt127 => ((rational_Mul.f 1000000000 1 2 1).bind fun bt131 => ((rational_Div.f 1 2 0 1).bind fun bt135 => ((rational_Compare.f k 1 2 1 3).bind fun bt139 => (if t117 = 0 then (if t121 = 0 then (if t124 = 0 then (if bt125.2 = 0 then (if bt127.2.2 = 8 then (if bt131.2.2 = 3 then (if bt135.2.2 = 7 then (if bt139.2 = 0 then (if (t115 == (-3) && (t116 == 2)) = true then (if (t119 == 5 && (t120 == 6)) = true then (if t123 = (-2) then (if bt125.1.toList = ([45, 51, 47, 52] : List UInt8) then (if bt139.1 = 1 then ((rational_Valid.f t115 t116).bind fun t141 => (if t141 = true then ((rational_Valid.f 2 4).bind fun t142 => (if t142 = true then (none) else (some true))) else (none))) else (none)) else (none)) else (none)) else (none)) else (none)) else (none)) else (none)) else (none)) else (none)) else (none)) else (none)) else (none)) else (none))))))) = some r := H
 have A3 := Aside0.mk A30
 clear A30
 replace H := Option.bind_eq_some_iff.mp H
 obtain ⟨⟨t125, t126⟩, A40, H⟩ := H
 replace H : ((rational_Parse.f (⟨#[54, 47, 52]⟩ : ByteArray)).bind fun bt127 => ((rational_Mul.f 1000000000 1 2 1).bind fun bt131 => ((rational_Div.f 1 2 0 1).bind fun bt135 => ((rational_Compare.f k 1 2 1 3).bind fun bt139 => (if t117 = 0 then (if t121 = 0 then (if t124 = 0 then (if t126 = 0 then (if bt127.2.2 = 8 then (if bt131.2.2 = 3 then (if bt135.2.2 = 7 then (if bt139.2 = 0 then (if (t115 == (-3) && (t116 == 2)) = true then (if (t119 == 5 && (t120 == 6)) = true then (if t123 = (-2) then (if t125.toList = ([45, 51, 47, 52] : List UInt8) then (if bt139.1 = 1 then ((rational_Valid.f t115 t116).bind fun t141 => (if t141 = true then ((rational_Valid.f 2 4).bind fun t142 => (if t142 = true then (none) else (some true))) else (none))) else (none)) else (none)) else (none)) else (none)) else (none)) else (none)) else (none)) else (none)) else (none)) else (none)) else (none)) else (none)) else (none)))))) = some r := H
 have A4 := Aside0.mk A40
 clear A40
 replace H := Option.bind_eq_some_iff.mp H
 obtain ⟨⟨t127, t128, t129⟩, A50, H⟩ := H
 replace H : ((rational_Mul.f 1000000000 1 2 1).bind fun bt131 => ((rational_Div.f 1 2 0 1).bind fun bt135 => ((rational_Compare.f k 1 2 1 3).bind fun bt139 => (if t117 = 0 then (if t121 = 0 then (if t124 = 0 then (if t126 = 0 then (if t129 = 8 then (if bt131.2.2 = 3 then (if bt135.2.2 = 7 then (if bt139.2 = 0 then (if (t115 == (-3) && (t116 == 2)) = true then (if (t119 == 5 && (t120 == 6)) = true then (if t123 = (-2) then (if t125.toList = ([45, 51, 47, 52] : List UInt8) then (if bt139.1 = 1 then ((rational_Valid.f t115 t116).bind fun t141 => (if t141 = true then ((rational_Valid.f 2 4).bind fun t142 => (if t142 = true then (none) else (some true))) else (none))) else (none)) else (none)) else (none)) else (none)) else (none)) else (none)) else (none)) else (none)) else (none)) else (none)) else (none)) else (none)) else (none))))) = some r := H
 have A5 := Aside0.mk A50
 clear A50
 replace H := Option.bind_eq_some_iff.mp H
 obtain ⟨⟨t131, t132, t133⟩, A60, H⟩ := H
 replace H : ((rational_Div.f 1 2 0 1).bind fun bt135 => ((rational_Compare.f k 1 2 1 3).bind fun bt139 => (if t117 = 0 then (if t121 = 0 then (if t124 = 0 then (if t126 = 0 then (if t129 = 8 then (if t133 = 3 then (if bt135.2.2 = 7 then (if bt139.2 = 0 then (if (t115 == (-3) && (t116 == 2)) = true then (if (t119 == 5 && (t120 == 6)) = true then (if t123 = (-2) then (if t125.toList = ([45, 51, 47, 52] : List UInt8) then (if bt139.1 = 1 then ((rational_Valid.f t115 t116).bind fun t141 => (if t141 = true then ((rational_Valid.f 2 4).bind fun t142 => (if t142 = true then (none) else (some true))) else (none))) else (none)) else (none)) else (none)) else (none)) else (none)) else (none)) else (none)) else (none)) else (none)) else (none)) else (none)) else (none)) else (none)))) = some r := H
 have A6 := Aside0.mk A60
 clear A60
 replace H := Option.bind_eq_some_iff.mp H
 obtain ⟨⟨t135, t136, t137⟩, A70, H⟩ := H
 replace H : ((rational_Compare.f k 1 2 1 3).bind fun bt139 => (if t117 = 0 then (if t121 = 0 then (if t124 = 0 then (if t126 = 0 then (if t129 = 8 then (if t133 = 3 then (if t137 = 7 then (if bt139.2 = 0 then (if (t115 == (-3) && (t116 == 2)) = true then (if (t119 == 5 && (t120 == 6)) = true then (if t123 = (-2) then (if t125.toList = ([45, 51, 47, 52] : List UInt8) then (if bt139.1 = 1 then ((rational_Valid.f t115 t116).bind fun t141 => (if t141 = true then ((rational_Valid.f 2 4).bind fun t142 => (if t142 = true then (none) else (some true))) else (none))) else (none)) else (none)) else (none)) else (none)) else (none)) else (none)) else (none)) else (none)) else (none)) else (none)) else (none)) else (none)) else (none))) = some r := H
 have A7 := Aside0.mk A70
 clear A70
 replace H := Option.bind_eq_some_iff.mp H
 obtain ⟨⟨t139, t140⟩, A80, H⟩ := H
 replace H : (if t117 = 0 then (if t121 = 0 then (if t124 = 0 then (if t126 = 0 then (if t129 = 8 then (if t133 = 3 then (if t137 = 7 then (if t140 = 0 then (if (t115 == (-3) && (t116 == 2)) = true then (if (t119 == 5 && (t120 == 6)) = true then (if t123 = (-2) then (if t125.toList = ([45, 51, 47, 52] : List UInt8) then (if t139 = 1 then ((rational_Valid.f t115 t116).bind fun t141 => (if t141 = true then ((rational_Valid.f 2 4).bind fun t142 => (if t142 = true then (none) else (some true))) else (none))) else (none)) else (none)) else (none)) else (none)) else (none)) else (none)) else (none)) else (none)) else (none)) else (none)) else (none)) else (none)) else (none)) = some r := H
 have A8 := Aside0.mk A80
 clear A80
 by_cases c9 : t117 = 0
 ·rw [if_pos c9] at H
  have c9b0 : (t117 == 0) = true := beq_iff_eq.mpr c9
  have c9b1 : (t117 != 0) = false := bne_eq_false_iff_eq.mpr c9
  clear c9
  by_cases c10 : t121 = 0
  ·rw [if_pos c10] at H
   have c10b0 : (t121 == 0) = true := beq_iff_eq.mpr c10
   have c10b1 : (t121 != 0) = false := bne_eq_false_iff_eq.mpr c10
   clear c10
   by_cases c11 : t124 = 0
   ·rw [if_pos c11] at H
    have c11b0 : (t124 == 0) = true := beq_iff_eq.mpr c11
    have c11b1 : (t124 != 0) = false := bne_eq_false_iff_eq.mpr c11
    clear c11
    by_cases c12 : t126 = 0
    ·rw [if_pos c12] at H
     have c12b0 : (t126 == 0) = true := beq_iff_eq.mpr c12
     have c12b1 : (t126 != 0) = false := bne_eq_false_iff_eq.mpr c12
     clear c12
     by_cases c13 : t129 = 8
     ·rw [if_pos c13] at H
      have c13b0 : (t129 == 8) = true := beq_iff_eq.mpr c13
      have c13b1 : (t129 != 8) = false := bne_eq_false_iff_eq.mpr c13
      clear c13
      by_cases c14 : t133 = 3
      ·rw [if_pos c14] at H
       have c14b0 : (t133 == 3) = true := beq_iff_eq.mpr c14
       have c14b1 : (t133 != 3) = false := bne_eq_false_iff_eq.mpr c14
       clear c14
       by_cases c15 : t137 = 7
       ·rw [if_pos c15] at H
        have c15b0 : (t137 == 7) = true := beq_iff_eq.mpr c15
        have c15b1 : (t137 != 7) = false := bne_eq_false_iff_eq.mpr c15
        clear c15
        by_cases c16 : t140 = 0
        ·rw [if_pos c16] at H
         have c16b0 : (t140 == 0) = true := beq_iff_eq.mpr c16
         have c16b1 : (t140 != 0) = false := bne_eq_false_iff_eq.mpr c16
         clear c16
         by_cases c17 : (t115 == (-3) && (t116 == 2)) = true
         ·rw [if_pos c17] at H
          have c17b0 : (t115 == (-3) && (t116 == 2)) = true := c17
          (try (have c17b1 : decide (t115 = (-3) && (t116 == 2)) = true := by simpa using c17))
          (try (have c17b2 : (t115 == (-3) && (t116 == 2)) = true := by simpa using c17))
          clear c17
          by_cases c18 : (t119 == 5 && (t120 == 6)) = true
          ·rw [if_pos c18] at H
           have c18b0 : (t119 == 5 && (t120 == 6)) = true := c18
           (try (have c18b1 : decide (t119 = 5 && (t120 == 6)) = true := by simpa using c18))
           (try (have c18b2 : (t119 == 5 && (t120 == 6)) = true := by simpa using c18))
           clear c18
           by_cases c19 : t123 = (-2)
           ·rw [if_pos c19] at H
            have c19b0 : (t123 == (-2)) = true := beq_iff_eq.mpr c19
            have c19b1 : (t123 != (-2)) = false := bne_eq_false_iff_eq.mpr c19
            clear c19
            by_cases c20 : t125.toList = ([45, 51, 47, 52] : List UInt8)
            ·rw [if_pos c20] at H
             have c20b0 : (t125.toList == ([45, 51, 47, 52] : List UInt8)) = true := beq_iff_eq.mpr c20
             have c20b1 : (t125.toList != ([45, 51, 47, 52] : List UInt8)) = false := bne_eq_false_iff_eq.mpr c20
             clear c20
             by_cases c21 : t139 = 1
             ·rw [if_pos c21] at H
              have c21b0 : (t139 == 1) = true := beq_iff_eq.mpr c21
              have c21b1 : (t139 != 1) = false := bne_eq_false_iff_eq.mpr c21
              clear c21
              replace H := Option.bind_eq_some_iff.mp H
              obtain ⟨t141, A220, H⟩ := H
              replace H : (if t141 = true then ((rational_Valid.f 2 4).bind fun t142 => (if t142 = true then (none) else (some true))) else (none)) = some r := H
              have A22 := Aside0.mk A220
              clear A220
              by_cases c23 : t141 = true
              ·subst c23
               have H1 : ((rational_Valid.f 2 4).bind fun t142 => (if t142 = true then (none) else (some true))) = some r := by rw [if_pos rfl] at H; exact H
               clear H
               have H := H1
               clear H1
               replace H := Option.bind_eq_some_iff.mp H
               obtain ⟨t142, A240, H⟩ := H
               replace H : (if t142 = true then (none) else (some true)) = some r := H
               have A24 := Aside0.mk A240
               clear A240
               by_cases c25 : t142 = true
               ·subst c25
                have H1 : (none) = some r := by rw [if_pos rfl] at H; exact H
                clear H
                have H := H1
                clear H1
                exact absurd H (by simp)
               ·replace c25 := Bool.eq_false_iff.mpr c25
                subst c25
                have H1 : (some true) = some r := by rw [if_neg (show ¬ (false = true) by decide)] at H; exact H
                clear H
                have H := H1
                clear H1
                obtain rfl := Option.some.inj H
                go_enter Tryd.func10, Tryd.ntmps10
                go_wp2_with (first | ((with_reducible refine gate_callee (f := 11) rfl ?_); refine goesL_ (some 19) rfl rfl Tryd.func11 (by kernel_rfl) rfl #[.int .i64 6, .int .i64 (-4)] rfl (by (try simp only [List.map_toArray, List.map_cons, List.map_nil]); first | done | rfl | (simp only [List.length_drop, List.length_take]; rfl)) ?_; (with_reducible refine (rational_Make.calls 6 (-4) t115 t116 t117 _ A1.out).mono ?_); rintro e w26 ⟨rfl, hb⟩; refine ⟨_, rfl, ?_⟩; have n0_ := Aside0.mk (bT (by repeat (first | (with_reducible first | exact HB.out | apply bA | apply bN | apply b1) | exact HB.out)) hb); clear HB; have HB := n0_; clear n0_; (try clear hb); (try clear hb2); (try clear hk); (try clear hi)) | ((with_reducible refine gate_dst (N := 1) rfl ?_); refine box_event ?hg (N := 1) ?hd (cs := #[.int .i64 0, .int .i64 0]) (t := 24) ?hr ?_; (case hd => rfl); (case hg => rfl); (case hr => first | (go_simp; done) | (go_simp; rfl)); intro gb118 hg w27 hbox hb; have n0_ := Aside0.mk (bT (by repeat (first | (with_reducible first | exact HB.out | apply bA | apply bN | apply b1) | exact HB.out)) hb); have n1_ := Aside0.mk (hbox); have n2_ := Aside0.mk ((by rw [hg]; exact (bZ (by repeat (first | (with_reducible first | exact HB.out | apply bA | apply bN | apply b1) | exact HB.out))) : w.heap.size ≤ gb118)); have n3_ := n2_; clear HB; have HB := n0_; have BK118 := n1_; have GW118 := n2_; have GE118 := n3_; clear n0_ n1_ n2_ n3_; clear hb hbox hg; have hcz28_0 : w27.cell? ⟨gb118, 0, none⟩ = some (.int .i64 0) := (kC BK118.out 0).trans rfl; have hcz28_1 : w27.cell? ⟨gb118, 1, none⟩ = some (.int .i64 0) := (kC BK118.out 1).trans rfl; have hfz28_0 := blk_frozen BK118.out 0; have hfz28_1 := blk_frozen BK118.out 1) | ((with_reducible refine gate_callee (f := 17) rfl ?_); refine goesL_ (some 25) rfl rfl Tryd.func17 (by kernel_rfl) rfl #[.agg #[.int .i64 1, .int .i64 2], .agg #[.int .i64 1, .int .i64 3]] rfl (by (try simp only [List.map_toArray, List.map_cons, List.map_nil]); first | done | rfl | (simp only [List.length_drop, List.length_take]; rfl)) ?_; (with_reducible refine (rational_Add.calls 1 2 1 3 t119 t120 t121 _ A2.out).mono ?_); rintro e w29 ⟨rfl, hb⟩; refine ⟨_, rfl, ?_⟩; have n0_ := Aside0.mk (kB (g := gb118) (o := .cells #[.int .i64 t115, .int .i64 t116] 24 (0, 0)) (by (with_reducible repeat (first | refine kN ?_ _ | refine kD ?_ | refine kA ?_ _)); refine blk_put (cs := #[.int .i64 t115, .int .i64 0]) ?_ 1 _ rfl; (with_reducible repeat (first | refine kN ?_ _ | refine kD ?_ | refine kA ?_ _)); refine blk_put (cs := #[.int .i64 0, .int .i64 0]) ?_ 0 _ rfl; (with_reducible repeat (first | refine kN ?_ _ | refine kD ?_ | refine kA ?_ _)); exact BK118.out) hb); have n1_ := Aside0.mk (bT (by repeat (first | (with_reducible first | exact HB.out | apply bA | apply bN | apply b1 | refine bS ?_ GE118.out) | exact HB.out)) hb); clear BK118; clear HB; have BK118 := n0_; have HB := n1_; clear n0_ n1_; (try clear hb); (try clear hb2); (try clear hk); (try clear hi)) | ((with_reducible refine gate_dst (N := 3) rfl ?_); refine box_event ?hg (N := 3) ?hd (cs := #[.int .i64 0, .int .i64 0]) (t := 24) ?hr ?_; (case hd => rfl); (case hg => rfl); (case hr => first | (go_simp; done) | (go_simp; rfl)); intro gb122 hg w30 hbox hb; have n0_ := Aside0.mk (kB (g := gb118) (o := .cells #[.int .i64 t115, .int .i64 t116] 24 (0, 0)) (by (with_reducible repeat (first | refine kN ?_ _ | refine kD ?_ | refine kA ?_ _)); exact BK118.out) hb); have n1_ := Aside0.mk (bT (by repeat (first | (with_reducible first | exact HB.out | apply bA | apply bN | apply b1 | refine bS ?_ GE118.out) | exact HB.out)) hb); have n2_ := Aside0.mk (hbox); have n3_ := Aside0.mk ((by rw [hg]; exact (bZ (by repeat (first | (with_reducible first | exact HB.out | apply bA | apply bN | apply b1 | refine bS ?_ GE118.out) | exact HB.out))) : w.heap.size ≤ gb122)); have n4_ := n3_; have n5_ := Aside0.mk ((by rw [hg]; exact Nat.ne_of_lt (blk_lt (g := gb118) (o := .cells #[.int .i64 t115, .int .i64 t116] 24 (0, 0)) (by (with_reducible repeat (first | refine kN ?_ _ | refine kD ?_ | refine kA ?_ _)); exact BK118.out)) : gb118 ≠ gb122)); have n6_ := Aside0.mk n5_.out.symm; clear BK118; clear HB; have BK118 := n0_; have HB := n1_; have BK122 := n2_; have GW122 := n3_; have GE122 := n4_; have NB118_122 := n5_; have NB122_118 := n6_; clear n0_ n1_ n2_ n3_ n4_ n5_ n6_; clear hb hbox hg; have hnb31 := NB122_118.out; have hnc31 := NB118_122.out; have hcz32_0 : w30.cell? ⟨gb122, 0, none⟩ = some (.int .i64 0) := (kC BK122.out 0).trans rfl; have hcz32_1 : w30.cell? ⟨gb122, 1, none⟩ = some (.int .i64 0) := (kC BK122.out 1).trans rfl; have hfz32_0 := blk_frozen BK122.out 0; have hfz32_1 := blk_frozen BK122.out 1) | ((with_reducible refine gate_callee (f := 29) rfl ?_); refine goesL_ (some 30) rfl rfl Tryd.func29 (by kernel_rfl) rfl #[.agg #[.int .i64 (-3), .int .i64 2]] rfl (by (try simp only [List.map_toArray, List.map_cons, List.map_nil]); first | done | rfl | (simp only [List.length_drop, List.length_take]; rfl)) ?_; (with_reducible refine (rational_Floor.calls (-3) 2 t123 t124 _ A3.out).mono ?_); rintro e w33 ⟨rfl, hb⟩; refine ⟨_, rfl, ?_⟩; have n0_ := Aside0.mk (kB (g := gb118) (o := .cells #[.int .i64 t115, .int .i64 t116] 24 (0, 0)) (by (with_reducible repeat (first | refine kN ?_ _ | refine kD ?_ | refine kA ?_ _)); refine kF ?_ NB118_122.out _; (with_reducible repeat (first | refine kN ?_ _ | refine kD ?_ | refine kA ?_ _)); refine kF ?_ NB118_122.out _; (with_reducible repeat (first | refine kN ?_ _ | refine kD ?_ | refine kA ?_ _)); exact BK118.out) hb); have n1_ := Aside0.mk (kB (g := gb122) (o := .cells #[.int .i64 t119, .int .i64 t120] 24 (0, 0)) (by (with_reducible repeat (first | refine kN ?_ _ | refine kD ?_ | refine kA ?_ _)); refine blk_put (cs := #[.int .i64 t119, .int .i64 0]) ?_ 1 _ rfl; (with_reducible repeat (first | refine kN ?_ _ | refine kD ?_ | refine kA ?_ _)); refine blk_put (cs := #[.int .i64 0, .int .i64 0]) ?_ 0 _ rfl; (with_reducible repeat (first | refine kN ?_ _ | refine kD ?_ | refine kA ?_ _)); exact BK122.out) hb); have n2_ := Aside0.mk (bT (by repeat (first | (with_reducible first | exact HB.out | apply bA | apply bN | apply b1 | refine bS ?_ GE118.out | refine bS ?_ GE122.out) | exact HB.out)) hb); clear BK118; clear BK122; clear HB; have BK118 := n0_; have BK122 := n1_; have HB := n2_; clear n0_ n1_ n2_; (try clear hb); (try clear hb2); (try clear hk); (try clear hi)) | ((with_reducible refine gate_callee (f := 18) rfl ?_); refine goesL_ (some 35) rfl rfl Tryd.func18 (by kernel_rfl) rfl #[.agg #[.int .i64 (-3), .int .i64 4]] rfl (by (try simp only [List.map_toArray, List.map_cons, List.map_nil]); first | done | rfl | (simp only [List.length_drop, List.length_take]; rfl)) ?_; (with_reducible refine (rational_Text.calls (-3) 4 t125 t126 _ ?side1 A4.out).mono ?_); (case side1 => exact GL.below HG.out (by repeat (first | (with_reducible first | exact HB.out | apply bA | apply bN | apply b1 | refine bS ?_ GE118.out | refine bS ?_ GE122.out) | exact HB.out))); rintro e w34 ⟨rfl, hb⟩; refine ⟨_, rfl, ?_⟩; have n0_ := Aside0.mk (kB (g := gb118) (o := .cells #[.int .i64 t115, .int .i64 t116] 24 (0, 0)) (by (with_reducible repeat (first | refine kN ?_ _ | refine kD ?_ | refine kA ?_ _)); exact BK118.out) hb); have n1_ := Aside0.mk (kB (g := gb122) (o := .cells #[.int .i64 t119, .int .i64 t120] 24 (0, 0)) (by (with_reducible repeat (first | refine kN ?_ _ | refine kD ?_ | refine kA ?_ _)); exact BK122.out) hb); have n2_ := Aside0.mk (bT (by repeat (first | (with_reducible first | exact HB.out | apply bA | apply bN | apply b1 | refine bS ?_ GE118.out | refine bS ?_ GE122.out) | exact HB.out)) hb); clear BK118; clear BK122; clear HB; have BK118 := n0_; have BK122 := n1_; have HB := n2_; clear n0_ n1_ n2_; (try clear hb); (try clear hb2); (try clear hk); (try clear hi)) | ((with_reducible refine gate_callee (f := 19) rfl ?_); refine goesL_ (some 39) rfl rfl Tryd.func19 (by kernel_rfl) rfl #[.string (⟨#[54, 47, 52]⟩ : ByteArray)] rfl (by (try simp only [List.map_toArray, List.map_cons, List.map_nil]); first | done | rfl | (simp only [List.length_drop, List.length_take]; rfl)) ?_; (with_reducible refine (rational_Parse.calls (⟨#[54, 47, 52]⟩ : ByteArray) t127 t128 t129 _ ?side1 A5.out).mono ?_); (case side1 => exact GL.below HG.out (by repeat (first | (with_reducible first | exact HB.out | apply bA | apply bN | apply b1 | refine bS ?_ GE118.out | refine bS ?_ GE122.out) | exact HB.out))); rintro e w35 ⟨rfl, hb⟩; refine ⟨_, rfl, ?_⟩; have n0_ := Aside0.mk (kB (g := gb118) (o := .cells #[.int .i64 t115, .int .i64 t116] 24 (0, 0)) (by (with_reducible repeat (first | refine kN ?_ _ | refine kD ?_ | refine kA ?_ _)); exact BK118.out) hb); have n1_ := Aside0.mk (kB (g := gb122) (o := .cells #[.int .i64 t119, .int .i64 t120] 24 (0, 0)) (by (with_reducible repeat (first | refine kN ?_ _ | refine kD ?_ | refine kA ?_ _)); exact BK122.out) hb); have n2_ := Aside0.mk (bT (by repeat (first | (with_reducible first | exact HB.out | apply bA | apply bN | apply b1 | refine bS ?_ GE118.out | refine bS ?_ GE122.out) | exact HB.out)) hb); clear BK118; clear BK122; clear HB; have BK118 := n0_; have BK122 := n1_; have HB := n2_; clear n0_ n1_ n2_; (try clear hb); (try clear hb2); (try clear hk); (try clear hi)) | ((with_reducible refine gate_dst (N := 9) rfl ?_); refine box_event ?hg (N := 9) ?hd (cs := #[.int .i64 0, .int .i64 0]) (t := 24) ?hr ?_; (case hd => rfl); (case hg => rfl); (case hr => first | (go_simp; done) | (go_simp; rfl)); intro gb130 hg w36 hbox hb; have n0_ := Aside0.mk (kB (g := gb118) (o := .cells #[.int .i64 t115, .int .i64 t116] 24 (0, 0)) (by (with_reducible repeat (first | refine kN ?_ _ | refine kD ?_ | refine kA ?_ _)); exact BK118.out) hb); have n1_ := Aside0.mk (kB (g := gb122) (o := .cells #[.int .i64 t119, .int .i64 t120] 24 (0, 0)) (by (with_reducible repeat (first | refine kN ?_ _ | refine kD ?_ | refine kA ?_ _)); exact BK122.out) hb); have n2_ := Aside0.mk (bT (by repeat (first | (with_reducible first | exact HB.out | apply bA | apply bN | apply b1 | refine bS ?_ GE118.out | refine bS ?_ GE122.out) | exact HB.out)) hb); have n3_ := Aside0.mk (hbox); have n4_ := Aside0.mk ((by rw [hg]; exact (bZ (by repeat (first | (with_reducible first | exact HB.out | apply bA | apply bN | apply b1 | refine bS ?_ GE118.out | refine bS ?_ GE122.out) | exact HB.out))) : w.heap.size ≤ gb130)); have n5_ := n4_; have n6_ := Aside0.mk ((by rw [hg]; exact Nat.ne_of_lt (blk_lt (g := gb118) (o := .cells #[.int .i64 t115, .int .i64 t116] 24 (0, 0)) (by (with_reducible repeat (first | refine kN ?_ _ | refine kD ?_ | refine kA ?_ _)); exact BK118.out)) : gb118 ≠ gb130)); have n7_ := Aside0.mk n6_.out.symm; have n8_ := Aside0.mk ((by rw [hg]; exact Nat.ne_of_lt (blk_lt (g := gb122) (o := .cells #[.int .i64 t119, .int .i64 t120] 24 (0, 0)) (by (with_reducible repeat (first | refine kN ?_ _ | refine kD ?_ | refine kA ?_ _)); exact BK122.out)) : gb122 ≠ gb130)); have n9_ := Aside0.mk n8_.out.symm; clear BK118; clear BK122; clear HB; have BK118 := n0_; have BK122 := n1_; have HB := n2_; have BK130 := n3_; have GW130 := n4_; have GE130 := n5_; have NB118_130 := n6_; have NB130_118 := n7_; have NB122_130 := n8_; have NB130_122 := n9_; clear n0_ n1_ n2_ n3_ n4_ n5_ n6_ n7_ n8_ n9_; clear hb hbox hg; have hnb37 := NB130_118.out; have hnc37 := NB118_130.out; have hnb38 := NB130_122.out; have hnc38 := NB122_130.out; have hcz39_0 : w36.cell? ⟨gb130, 0, none⟩ = some (.int .i64 0) := (kC BK130.out 0).trans rfl; have hcz39_1 : w36.cell? ⟨gb130, 1, none⟩ = some (.int .i64 0) := (kC BK130.out 1).trans rfl; have hfz39_0 := blk_frozen BK130.out 0; have hfz39_1 := blk_frozen BK130.out 1) | ((with_reducible refine gate_callee (f := 15) rfl ?_); refine goesL_ (some 45) rfl rfl Tryd.func15 (by kernel_rfl) rfl #[.agg #[.int .i64 1000000000, .int .i64 1], .agg #[.int .i64 2, .int .i64 1]] rfl (by (try simp only [List.map_toArray, List.map_cons, List.map_nil]); first | done | rfl | (simp only [List.length_drop, List.length_take]; rfl)) ?_; (with_reducible refine (rational_Mul.calls 1000000000 1 2 1 t131 t132 t133 _ A6.out).mono ?_); rintro e w40 ⟨rfl, hb⟩; refine ⟨_, rfl, ?_⟩; have n0_ := Aside0.mk (kB (g := gb118) (o := .cells #[.int .i64 t115, .int .i64 t116] 24 (0, 0)) (by (with_reducible repeat (first | refine kN ?_ _ | refine kD ?_ | refine kA ?_ _)); refine kF ?_ NB118_130.out _; (with_reducible repeat (first | refine kN ?_ _ | refine kD ?_ | refine kA ?_ _)); refine kF ?_ NB118_130.out _; (with_reducible repeat (first | refine kN ?_ _ | refine kD ?_ | refine kA ?_ _)); exact BK118.out) hb); have n1_ := Aside0.mk (kB (g := gb122) (o := .cells #[.int .i64 t119, .int .i64 t120] 24 (0, 0)) (by (with_reducible repeat (first | refine kN ?_ _ | refine kD ?_ | refine kA ?_ _)); refine kF ?_ NB122_130.out _; (with_reducible repeat (first | refine kN ?_ _ | refine kD ?_ | refine kA ?_ _)); refine kF ?_ NB122_130.out _; (with_reducible repeat (first | refine kN ?_ _ | refine kD ?_ | refine kA ?_ _)); exact BK122.out) hb); have n2_ := Aside0.mk (kB (g := gb130) (o := .cells #[.int .i64 t127, .int .i64 t128] 24 (0, 0)) (by (with_reducible repeat (first | refine kN ?_ _ | refine kD ?_ | refine kA ?_ _)); refine blk_put (cs := #[.int .i64 t127, .int .i64 0]) ?_ 1 _ rfl; (with_reducible repeat (first | refine kN ?_ _ | refine kD ?_ | refine kA ?_ _)); refine blk_put (cs := #[.int .i64 0, .int .i64 0]) ?_ 0 _ rfl; (with_reducible repeat (first | refine kN ?_ _ | refine kD ?_ | refine kA ?_ _)); exact BK130.out) hb); have n3_ := Aside0.mk (bT (by repeat (first | (with_reducible first | exact HB.out | apply bA | apply bN | apply b1 | refine bS ?_ GE118.out | refine bS ?_ GE122.out | refine bS ?_ GE130.out) | exact HB.out)) hb); clear BK118; clear BK122; clear BK130; clear HB; have BK118 := n0_; have BK122 := n1_; have BK130 := n2_; have HB := n3_; clear n0_ n1_ n2_ n3_; (try clear hb); (try clear hb2); (try clear hk); (try clear hi)) | ((with_reducible refine gate_dst (N := 11) rfl ?_); refine box_event ?hg (N := 11) ?hd (cs := #[.int .i64 0, .int .i64 0]) (t := 24) ?hr ?_; (case hd => rfl); (case hg => rfl); (case hr => first | (go_simp; done) | (go_simp; rfl)); intro gb134 hg w41 hbox hb; have n0_ := Aside0.mk (kB (g := gb118) (o := .cells #[.int .i64 t115, .int .i64 t116] 24 (0, 0)) (by (with_reducible repeat (first | refine kN ?_ _ | refine kD ?_ | refine kA ?_ _)); exact BK118.out) hb); have n1_ := Aside0.mk (kB (g := gb122) (o := .cells #[.int .i64 t119, .int .i64 t120] 24 (0, 0)) (by (with_reducible repeat (first | refine kN ?_ _ | refine kD ?_ | refine kA ?_ _)); exact BK122.out) hb); have n2_ := Aside0.mk (kB (g := gb130) (o := .cells #[.int .i64 t127, .int .i64 t128] 24 (0, 0)) (by (with_reducible repeat (first | refine kN ?_ _ | refine kD ?_ | refine kA ?_ _)); exact BK130.out) hb); have n3_ := Aside0.mk (bT (by repeat (first | (with_reducible first | exact HB.out | apply bA | apply bN | apply b1 | refine bS ?_ GE118.out | refine bS ?_ GE122.out | refine bS ?_ GE130.out) | exact HB.out)) hb); have n4_ := Aside0.mk (hbox); have n5_ := Aside0.mk ((by rw [hg]; exact (bZ (by repeat (first | (with_reducible first | exact HB.out | apply bA | apply bN | apply b1 | refine bS ?_ GE118.out | refine bS ?_ GE122.out | refine bS ?_ GE130.out) | exact HB.out))) : w.heap.size ≤ gb134)); have n6_ := n5_; have n7_ := Aside0.mk ((by rw [hg]; exact Nat.ne_of_lt (blk_lt (g := gb118) (o := .cells #[.int .i64 t115, .int .i64 t116] 24 (0, 0)) (by (with_reducible repeat (first | refine kN ?_ _ | refine kD ?_ | refine kA ?_ _)); exact BK118.out)) : gb118 ≠ gb134)); have n8_ := Aside0.mk n7_.out.symm; have n9_ := Aside0.mk ((by rw [hg]; exact Nat.ne_of_lt (blk_lt (g := gb122) (o := .cells #[.int .i64 t119, .int .i64 t120] 24 (0, 0)) (by (with_reducible repeat (first | refine kN ?_ _ | refine kD ?_ | refine kA ?_ _)); exact BK122.out)) : gb122 ≠ gb134)); have n10_ := Aside0.mk n9_.out.symm; have n11_ := Aside0.mk ((by rw [hg]; exact Nat.ne_of_lt (blk_lt (g := gb130) (o := .cells #[.int .i64 t127, .int .i64 t128] 24 (0, 0)) (by (with_reducible repeat (first | refine kN ?_ _ | refine kD ?_ | refine kA ?_ _)); exact BK130.out)) : gb130 ≠ gb134)); have n12_ := Aside0.mk n11_.out.symm; clear BK118; clear BK122; clear BK130; clear HB; have BK118 := n0_; have BK122 := n1_; have BK130 := n2_; have HB := n3_; have BK134 := n4_; have GW134 := n5_; have GE134 := n6_; have NB118_134 := n7_; have NB134_118 := n8_; have NB122_134 := n9_; have NB134_122 := n10_; have NB130_134 := n11_; have NB134_130 := n12_; clear n0_ n1_ n2_ n3_ n4_ n5_ n6_ n7_ n8_ n9_ n10_ n11_ n12_; clear hb hbox hg; have hnb42 := NB134_118.out; have hnc42 := NB118_134.out; have hnb43 := NB134_122.out; have hnc43 := NB122_134.out; have hnb44 := NB134_130.out; have hnc44 := NB130_134.out; have hcz45_0 : w41.cell? ⟨gb134, 0, none⟩ = some (.int .i64 0) := (kC BK134.out 0).trans rfl; have hcz45_1 : w41.cell? ⟨gb134, 1, none⟩ = some (.int .i64 0) := (kC BK134.out 1).trans rfl; have hfz45_0 := blk_frozen BK134.out 0; have hfz45_1 := blk_frozen BK134.out 1) | ((with_reducible refine gate_callee (f := 16) rfl ?_); refine goesL_ (some 51) rfl rfl Tryd.func16 (by kernel_rfl) rfl #[.agg #[.int .i64 1, .int .i64 2], .agg #[.int .i64 0, .int .i64 1]] rfl (by (try simp only [List.map_toArray, List.map_cons, List.map_nil]); first | done | rfl | (simp only [List.length_drop, List.length_take]; rfl)) ?_; (with_reducible refine (rational_Div.calls 1 2 0 1 t135 t136 t137 _ A7.out).mono ?_); rintro e w46 ⟨rfl, hb⟩; refine ⟨_, rfl, ?_⟩; have n0_ := Aside0.mk (kB (g := gb118) (o := .cells #[.int .i64 t115, .int .i64 t116] 24 (0, 0)) (by (with_reducible repeat (first | refine kN ?_ _ | refine kD ?_ | refine kA ?_ _)); refine kF ?_ NB118_134.out _; (with_reducible repeat (first | refine kN ?_ _ | refine kD ?_ | refine kA ?_ _)); refine kF ?_ NB118_134.out _; (with_reducible repeat (first | refine kN ?_ _ | refine kD ?_ | refine kA ?_ _)); exact BK118.out) hb); have n1_ := Aside0.mk (kB (g := gb122) (o := .cells #[.int .i64 t119, .int .i64 t120] 24 (0, 0)) (by (with_reducible repeat (first | refine kN ?_ _ | refine kD ?_ | refine kA ?_ _)); refine kF ?_ NB122_134.out _; (with_reducible repeat (first | refine kN ?_ _ | refine kD ?_ | refine kA ?_ _)); refine kF ?_ NB122_134.out _; (with_reducible repeat (first | refine kN ?_ _ | refine kD ?_ | refine kA ?_ _)); exact BK122.out) hb); have n2_ := Aside0.mk (kB (g := gb130) (o := .cells #[.int .i64 t127, .int .i64 t128] 24 (0, 0)) (by (with_reducible repeat (first | refine kN ?_ _ | refine kD ?_ | refine kA ?_ _)); refine kF ?_ NB130_134.out _; (with_reducible repeat (first | refine kN ?_ _ | refine kD ?_ | refine kA ?_ _)); refine kF ?_ NB130_134.out _; (with_reducible repeat (first | refine kN ?_ _ | refine kD ?_ | refine kA ?_ _)); exact BK130.out) hb); have n3_ := Aside0.mk (kB (g := gb134) (o := .cells #[.int .i64 t131, .int .i64 t132] 24 (0, 0)) (by (with_reducible repeat (first | refine kN ?_ _ | refine kD ?_ | refine kA ?_ _)); refine blk_put (cs := #[.int .i64 t131, .int .i64 0]) ?_ 1 _ rfl; (with_reducible repeat (first | refine kN ?_ _ | refine kD ?_ | refine kA ?_ _)); refine blk_put (cs := #[.int .i64 0, .int .i64 0]) ?_ 0 _ rfl; (with_reducible repeat (first | refine kN ?_ _ | refine kD ?_ | refine kA ?_ _)); exact BK134.out) hb); have n4_ := Aside0.mk (bT (by repeat (first | (with_reducible first | exact HB.out | apply bA | apply bN | apply b1 | refine bS ?_ GE118.out | refine bS ?_ GE122.out | refine bS ?_ GE130.out | refine bS ?_ GE134.out) | exact HB.out)) hb); clear BK118; clear BK122; clear BK130; clear BK134; clear HB; have BK118 := n0_; have BK122 := n1_; have BK130 := n2_; have BK134 := n3_; have HB := n4_; clear n0_ n1_ n2_ n3_ n4_; (try clear hb); (try clear hb2); (try clear hk); (try clear hi)) | ((with_reducible refine gate_dst (N := 13) rfl ?_); refine box_event ?hg (N := 13) ?hd (cs := #[.int .i64 0, .int .i64 0]) (t := 24) ?hr ?_; (case hd => rfl); (case hg => rfl); (case hr => first | (go_simp; done) | (go_simp; rfl)); intro gb138 hg w47 hbox hb; have n0_ := Aside0.mk (kB (g := gb118) (o := .cells #[.int .i64 t115, .int .i64 t116] 24 (0, 0)) (by (with_reducible repeat (first | refine kN ?_ _ | refine kD ?_ | refine kA ?_ _)); exact BK118.out) hb); have n1_ := Aside0.mk (kB (g := gb122) (o := .cells #[.int .i64 t119, .int .i64 t120] 24 (0, 0)) (by (with_reducible repeat (first | refine kN ?_ _ | refine kD ?_ | refine kA ?_ _)); exact BK122.out) hb); have n2_ := Aside0.mk (kB (g := gb130) (o := .cells #[.int .i64 t127, .int .i64 t128] 24 (0, 0)) (by (with_reducible repeat (first | refine kN ?_ _ | refine kD ?_ | refine kA ?_ _)); exact BK130.out) hb); have n3_ := Aside0.mk (kB (g := gb134) (o := .cells #[.int .i64 t131, .int .i64 t132] 24 (0, 0)) (by (with_reducible repeat (first | refine kN ?_ _ | refine kD ?_ | refine kA ?_ _)); exact BK134.out) hb); have n4_ := Aside0.mk (bT (by repeat (first | (with_reducible first | exact HB.out | apply bA | apply bN | apply b1 | refine bS ?_ GE118.out | refine bS ?_ GE122.out | refine bS ?_ GE130.out | refine bS ?_ GE134.out) | exact HB.out)) hb); have n5_ := Aside0.mk (hbox); have n6_ := Aside0.mk ((by rw [hg]; exact (bZ (by repeat (first | (with_reducible first | exact HB.out | apply bA | apply bN | apply b1 | refine bS ?_ GE118.out | refine bS ?_ GE122.out | refine bS ?_ GE130.out | refine bS ?_ GE134.out) | exact HB.out))) : w.heap.size ≤ gb138)); have n7_ := n6_; have n8_ := Aside0.mk ((by rw [hg]; exact Nat.ne_of_lt (blk_lt (g := gb118) (o := .cells #[.int .i64 t115, .int .i64 t116] 24 (0, 0)) (by (with_reducible repeat (first | refine kN ?_ _ | refine kD ?_ | refine kA ?_ _)); exact BK118.out)) : gb118 ≠ gb138)); have n9_ := Aside0.mk n8_.out.symm; have n10_ := Aside0.mk ((by rw [hg]; exact Nat.ne_of_lt (blk_lt (g := gb122) (o := .cells #[.int .i64 t119, .int .i64 t120] 24 (0, 0)) (by (with_reducible repeat (first | refine kN ?_ _ | refine kD ?_ | refine kA ?_ _)); exact BK122.out)) : gb122 ≠ gb138)); have n11_ := Aside0.mk n10_.out.symm; have n12_ := Aside0.mk ((by rw [hg]; exact Nat.ne_of_lt (blk_lt (g := gb130) (o := .cells #[.int .i64 t127, .int .i64 t128] 24 (0, 0)) (by (with_reducible repeat (first | refine kN ?_ _ | refine kD ?_ | refine kA ?_ _)); exact BK130.out)) : gb130 ≠ gb138)); have n13_ := Aside0.mk n12_.out.symm; have n14_ := Aside0.mk ((by rw [hg]; exact Nat.ne_of_lt (blk_lt (g := gb134) (o := .cells #[.int .i64 t131, .int .i64 t132] 24 (0, 0)) (by (with_reducible repeat (first | refine kN ?_ _ | refine kD ?_ | refine kA ?_ _)); exact BK134.out)) : gb134 ≠ gb138)); have n15_ := Aside0.mk n14_.out.symm; clear BK118; clear BK122; clear BK130; clear BK134; clear HB; have BK118 := n0_; have BK122 := n1_; have BK130 := n2_; have BK134 := n3_; have HB := n4_; have BK138 := n5_; have GW138 := n6_; have GE138 := n7_; have NB118_138 := n8_; have NB138_118 := n9_; have NB122_138 := n10_; have NB138_122 := n11_; have NB130_138 := n12_; have NB138_130 := n13_; have NB134_138 := n14_; have NB138_134 := n15_; clear n0_ n1_ n2_ n3_ n4_ n5_ n6_ n7_ n8_ n9_ n10_ n11_ n12_ n13_ n14_ n15_; clear hb hbox hg; have hnb48 := NB138_118.out; have hnc48 := NB118_138.out; have hnb49 := NB138_122.out; have hnc49 := NB122_138.out; have hnb50 := NB138_130.out; have hnc50 := NB130_138.out; have hnb51 := NB138_134.out; have hnc51 := NB134_138.out; have hcz52_0 : w47.cell? ⟨gb138, 0, none⟩ = some (.int .i64 0) := (kC BK138.out 0).trans rfl; have hcz52_1 : w47.cell? ⟨gb138, 1, none⟩ = some (.int .i64 0) := (kC BK138.out 1).trans rfl; have hfz52_0 := blk_frozen BK138.out 0; have hfz52_1 := blk_frozen BK138.out 1) | ((with_reducible refine gate_callee (f := 27) rfl ?_); refine goesL_ (some 57) rfl rfl Tryd.func27 (by kernel_rfl) rfl #[.agg #[.int .i64 1, .int .i64 2], .agg #[.int .i64 1, .int .i64 3]] rfl (by (try simp only [List.map_toArray, List.map_cons, List.map_nil]); first | done | rfl | (simp only [List.length_drop, List.length_take]; rfl)) ?_; (with_reducible refine (rational_Compare.calls k 1 2 1 3 t139 t140 _ A8.out).mono ?_); rintro e w53 ⟨rfl, hb⟩; refine ⟨_, rfl, ?_⟩; have n0_ := Aside0.mk (kB (g := gb118) (o := .cells #[.int .i64 t115, .int .i64 t116] 24 (0, 0)) (by (with_reducible repeat (first | refine kN ?_ _ | refine kD ?_ | refine kA ?_ _)); refine kF ?_ NB118_138.out _; (with_reducible repeat (first | refine kN ?_ _ | refine kD ?_ | refine kA ?_ _)); refine kF ?_ NB118_138.out _; (with_reducible repeat (first | refine kN ?_ _ | refine kD ?_ | refine kA ?_ _)); exact BK118.out) hb); have n1_ := Aside0.mk (kB (g := gb122) (o := .cells #[.int .i64 t119, .int .i64 t120] 24 (0, 0)) (by (with_reducible repeat (first | refine kN ?_ _ | refine kD ?_ | refine kA ?_ _)); refine kF ?_ NB122_138.out _; (with_reducible repeat (first | refine kN ?_ _ | refine kD ?_ | refine kA ?_ _)); refine kF ?_ NB122_138.out _; (with_reducible repeat (first | refine kN ?_ _ | refine kD ?_ | refine kA ?_ _)); exact BK122.out) hb); have n2_ := Aside0.mk (kB (g := gb130) (o := .cells #[.int .i64 t127, .int .i64 t128] 24 (0, 0)) (by (with_reducible repeat (first | refine kN ?_ _ | refine kD ?_ | refine kA ?_ _)); refine kF ?_ NB130_138.out _; (with_reducible repeat (first | refine kN ?_ _ | refine kD ?_ | refine kA ?_ _)); refine kF ?_ NB130_138.out _; (with_reducible repeat (first | refine kN ?_ _ | refine kD ?_ | refine kA ?_ _)); exact BK130.out) hb); have n3_ := Aside0.mk (kB (g := gb134) (o := .cells #[.int .i64 t131, .int .i64 t132] 24 (0, 0)) (by (with_reducible repeat (first | refine kN ?_ _ | refine kD ?_ | refine kA ?_ _)); refine kF ?_ NB134_138.out _; (with_reducible repeat (first | refine kN ?_ _ | refine kD ?_ | refine kA ?_ _)); refine kF ?_ NB134_138.out _; (with_reducible repeat (first | refine kN ?_ _ | refine kD ?_ | refine kA ?_ _)); exact BK134.out) hb); have n4_ := Aside0.mk (kB (g := gb138) (o := .cells #[.int .i64 t135, .int .i64 t136] 24 (0, 0)) (by (with_reducible repeat (first | refine kN ?_ _ | refine kD ?_ | refine kA ?_ _)); refine blk_put (cs := #[.int .i64 t135, .int .i64 0]) ?_ 1 _ rfl; (with_reducible repeat (first | refine kN ?_ _ | refine kD ?_ | refine kA ?_ _)); refine blk_put (cs := #[.int .i64 0, .int .i64 0]) ?_ 0 _ rfl; (with_reducible repeat (first | refine kN ?_ _ | refine kD ?_ | refine kA ?_ _)); exact BK138.out) hb); have n5_ := Aside0.mk (bT (by repeat (first | (with_reducible first | exact HB.out | apply bA | apply bN | apply b1 | refine bS ?_ GE118.out | refine bS ?_ GE122.out | refine bS ?_ GE130.out | refine bS ?_ GE134.out | refine bS ?_ GE138.out) | exact HB.out)) hb); clear BK118; clear BK122; clear BK130; clear BK134; clear BK138; clear HB; have BK118 := n0_; have BK122 := n1_; have BK130 := n2_; have BK134 := n3_; have BK138 := n4_; have HB := n5_; clear n0_ n1_ n2_ n3_ n4_ n5_; (try clear hb); (try clear hb2); (try clear hk); (try clear hi); have hcz54_0 : w53.cell? ⟨gb118, 0, none⟩ = some (.int .i64 t115) := (kC BK118.out 0).trans rfl; have hcz54_1 : w53.cell? ⟨gb118, 1, none⟩ = some (.int .i64 t116) := (kC BK118.out 1).trans rfl; have hfz54_0 := blk_frozen BK118.out 0; have hfz54_1 := blk_frozen BK118.out 1; have hcz55_0 : w53.cell? ⟨gb122, 0, none⟩ = some (.int .i64 t119) := (kC BK122.out 0).trans rfl; have hcz55_1 : w53.cell? ⟨gb122, 1, none⟩ = some (.int .i64 t120) := (kC BK122.out 1).trans rfl; have hfz55_0 := blk_frozen BK122.out 0; have hfz55_1 := blk_frozen BK122.out 1) | (go_at_call 12; (with_reducible refine (rational_Valid.calls t115 t116 true _ A22.out).mono ?_); rintro e w56 ⟨rfl, hb⟩; have n0_ := Aside0.mk (kB (g := gb118) (o := .cells #[.int .i64 t115, .int .i64 t116] 24 (0, 0)) (by (with_reducible repeat (first | refine kN ?_ _ | refine kD ?_ | refine kA ?_ _)); exact BK118.out) hb); have n1_ := Aside0.mk (kB (g := gb122) (o := .cells #[.int .i64 t119, .int .i64 t120] 24 (0, 0)) (by (with_reducible repeat (first | refine kN ?_ _ | refine kD ?_ | refine kA ?_ _)); exact BK122.out) hb); have n2_ := Aside0.mk (kB (g := gb130) (o := .cells #[.int .i64 t127, .int .i64 t128] 24 (0, 0)) (by (with_reducible repeat (first | refine kN ?_ _ | refine kD ?_ | refine kA ?_ _)); exact BK130.out) hb); have n3_ := Aside0.mk (kB (g := gb134) (o := .cells #[.int .i64 t131, .int .i64 t132] 24 (0, 0)) (by (with_reducible repeat (first | refine kN ?_ _ | refine kD ?_ | refine kA ?_ _)); exact BK134.out) hb); have n4_ := Aside0.mk (kB (g := gb138) (o := .cells #[.int .i64 t135, .int .i64 t136] 24 (0, 0)) (by (with_reducible repeat (first | refine kN ?_ _ | refine kD ?_ | refine kA ?_ _)); exact BK138.out) hb); have n5_ := Aside0.mk (bT (by repeat (first | (with_reducible first | exact HB.out | apply bA | apply bN | apply b1 | refine bS ?_ GE118.out | refine bS ?_ GE122.out | refine bS ?_ GE130.out | refine bS ?_ GE134.out | refine bS ?_ GE138.out) | exact HB.out)) hb); clear BK118; clear BK122; clear BK130; clear BK134; clear BK138; clear HB; have BK118 := n0_; have BK122 := n1_; have BK130 := n2_; have BK134 := n3_; have BK138 := n4_; have HB := n5_; clear n0_ n1_ n2_ n3_ n4_ n5_; (try clear hb); (try clear hb2); (try clear hk); (try clear hi)) | (go_at_call 12; (with_reducible refine (rational_Valid.calls 2 4 false _ A24.out).mono ?_); rintro e w57 ⟨rfl, hb⟩; have n0_ := Aside0.mk (kB (g := gb118) (o := .cells #[.int .i64 t115, .int .i64 t116] 24 (0, 0)) (by (with_reducible repeat (first | refine kN ?_ _ | refine kD ?_ | refine kA ?_ _)); exact BK118.out) hb); have n1_ := Aside0.mk (kB (g := gb122) (o := .cells #[.int .i64 t119, .int .i64 t120] 24 (0, 0)) (by (with_reducible repeat (first | refine kN ?_ _ | refine kD ?_ | refine kA ?_ _)); exact BK122.out) hb); have n2_ := Aside0.mk (kB (g := gb130) (o := .cells #[.int .i64 t127, .int .i64 t128] 24 (0, 0)) (by (with_reducible repeat (first | refine kN ?_ _ | refine kD ?_ | refine kA ?_ _)); exact BK130.out) hb); have n3_ := Aside0.mk (kB (g := gb134) (o := .cells #[.int .i64 t131, .int .i64 t132] 24 (0, 0)) (by (with_reducible repeat (first | refine kN ?_ _ | refine kD ?_ | refine kA ?_ _)); exact BK134.out) hb); have n4_ := Aside0.mk (kB (g := gb138) (o := .cells #[.int .i64 t135, .int .i64 t136] 24 (0, 0)) (by (with_reducible repeat (first | refine kN ?_ _ | refine kD ?_ | refine kA ?_ _)); exact BK138.out) hb); have n5_ := Aside0.mk (bT (by repeat (first | (with_reducible first | exact HB.out | apply bA | apply bN | apply b1 | refine bS ?_ GE118.out | refine bS ?_ GE122.out | refine bS ?_ GE130.out | refine bS ?_ GE134.out | refine bS ?_ GE138.out) | exact HB.out)) hb); clear BK118; clear BK122; clear BK130; clear BK134; clear BK138; clear HB; have BK118 := n0_; have BK122 := n1_; have BK130 := n2_; have BK134 := n3_; have BK138 := n4_; have HB := n5_; clear n0_ n1_ n2_ n3_ n4_ n5_; (try clear hb); (try clear hb2); (try clear hk); (try clear hi)))
                go_ret
                exact ⟨by first | rfl | (simp [errW_none, errW_some] <;> rfl) | (simp [*, errW_none, errW_some] <;> rfl), by repeat (first | (with_reducible first | exact HB.out | apply bA | apply bN | apply b1 | refine bS ?_ GE118.out | refine bS ?_ GE122.out | refine bS ?_ GE130.out | refine bS ?_ GE134.out | refine bS ?_ GE138.out) | exact HB.out)⟩
              ·replace c23 := Bool.eq_false_iff.mpr c23
               subst c23
               have H1 : (none) = some r := by rw [if_neg (show ¬ (false = true) by decide)] at H; exact H
               clear H
               have H := H1
               clear H1
               exact absurd H (by simp)
             ·rw [if_neg c21] at H
              exact absurd H (by simp)
            ·rw [if_neg c20] at H
             exact absurd H (by simp)
           ·rw [if_neg c19] at H
            exact absurd H (by simp)
          ·rw [if_neg c18] at H
           exact absurd H (by simp)
         ·rw [if_neg c17] at H
          exact absurd H (by simp)
        ·rw [if_neg c16] at H
         exact absurd H (by simp)
       ·rw [if_neg c15] at H
        exact absurd H (by simp)
      ·rw [if_neg c14] at H
       exact absurd H (by simp)
     ·rw [if_neg c13] at H
      exact absurd H (by simp)
    ·rw [if_neg c12] at H
     exact absurd H (by simp)
   ·rw [if_neg c11] at H
    exact absurd H (by simp)
  ·rw [if_neg c10] at H
   exact absurd H (by simp)
 ·rw [if_neg c9] at H
  exact absurd H (by simp)

/-! ### cohousinglaw01_small: function 13 -/
def cohousinglaw01_small.l0 : Nat → Int → List Int → Int → Int → Option (Bool)
 | 0, _, _, _, _ => none
 | k + 1, x0, x7, x8, x9 => if x9 < x8 then (if 0 ≤ x9 then (if x9 < (x7.length : Int) then (if (rd x7 x9) > x0 then (some false) else (if (rd x7 x9) < (wrap64 (-x0)) then (some false) else (cohousinglaw01_small.l0 k x0 x7 x8 (wrap64 (x9 + 1))))) else (none)) else (none)) else (some true)
def cohousinglaw01_small.f (k : Nat) (a0 : Int) (l1 : List Int) : Option (Bool) := cohousinglaw01_small.l0 k a0 l1 (l1.length : Int) 0
theorem cohousinglaw01_small.mono_l : ∀ k, (∀ y0 y1 y2 y3, LeO (cohousinglaw01_small.l0 k y0 y1 y2 y3) (cohousinglaw01_small.l0 (k + 1) y0 y1 y2 y3))
 | 0 => fun _ _ _ _ r h => by simp [cohousinglaw01_small.l0] at h
 | k + 1 => by
  have ih0 := cohousinglaw01_small.mono_l k
  ·intro y0 y1 y2 y3
   unfold cohousinglaw01_small.l0
   repeat' first
   | (with_reducible exact ih0 _ _ _ _)
   | (with_reducible exact LeO.refl _)
   | (with_reducible exact LeO.none _)
   | (with_reducible refine LeO.ite ?_ ?_)
   | (with_reducible refine LeO.bind ?_ (fun _ => ?_))
   | exact ih0 _ _ _ _
   | exact LeO.none _
   | refine LeO.ite ?_ ?_
   | refine LeO.bind ?_ (fun _ => ?_)
theorem cohousinglaw01_small.mono : ∀ a0 a1 k, LeO (cohousinglaw01_small.f k a0 a1) (cohousinglaw01_small.f (k + 1) a0 a1) := by
 intro a0 a1 k
 have ih0 := cohousinglaw01_small.mono_l k
 unfold cohousinglaw01_small.f
 repeat' first
   | (with_reducible exact ih0 _ _ _ _)
   | (with_reducible exact LeO.refl _)
   | (with_reducible exact LeO.none _)
   | (with_reducible refine LeO.ite ?_ ?_)
   | (with_reducible refine LeO.bind ?_ (fun _ => ?_))
   | exact ih0 _ _ _ _
   | exact LeO.none _
   | refine LeO.ite ?_ ?_
   | refine LeO.bind ?_ (fun _ => ?_)
set_option maxHeartbeats 8000000 in
set_option maxRecDepth 100000 in
theorem cohousinglaw01_small.calls (k : Nat) (a0 : Int) (A1 : Option Addr) (c1 : Nat) (l1 : List Int) (r : Bool) (w : World) (hr1 : Kd.C (Kd.int .i64) w A1 l1.length l1) (hc1 : l1.length ≤ c1) (h : cohousinglaw01_small.f k a0 l1 = some r) :
  Calls Tryd.prog 13 #[.int .i64 a0, .slice A1 l1.length c1] w fun e w' => e = .returned (.bool r) ∧ Drawn0 w w' := by
 have HR1 := Aside0.mk hr1
 have HC1 := Aside0.mk hc1
 clear hr1 hc1
 have H : (cohousinglaw01_small.l0 k a0 l1 (l1.length : Int) 0) = some r := h
 clear h
 have H' := Aside0.mk H
 clear H
 go_enter Tryd.func13, Tryd.ntmps13
 go_wp2
 go_loopg [9] k (fun kq v9 w' => ∃ (x9_1 : Int), v9 = .int .i64 x9_1 ∧ Aside0 (cohousinglaw01_small.l0 kq a0 l1 (l1.length : Int) x9_1 = some r) ∧ Aside0 (kq ≤ k) ∧ Drawn0 w w')
 case atStart => exact ⟨(0), (by first | rfl | (simp; done) | (simp [*]; done)), H', ⟨Nat.le_refl _⟩, by repeat (first | exact Drawn0.refl _ | apply Drawn0.step)⟩
 case round =>
  clear H'
  try clear c1
  try clear p2
  obtain ⟨x9_1, rfl, HA, HK1, ⟨m1, rfl⟩⟩ := hrel
  cases gk with
  | zero => exact absurd HA.out (by simp [cohousinglaw01_small.l0])
  | succ k1 =>
   have H := HA.out
   clear HA
   simp only [cohousinglaw01_small.l0] at H
   by_cases c3 : x9_1 < (l1.length : Int)
   ·rw [if_pos c3] at H
    have c3b0 : decide (x9_1 < (l1.length : Int)) = true := dT c3
    clear c3
    by_cases c4 : 0 ≤ x9_1
    ·rw [if_pos c4] at H
     have c4b0 : decide (0 ≤ x9_1) = true := dT c4
     clear c4
     by_cases c5 : x9_1 < (l1.length : Int)
     ·rw [if_pos c5] at H
      have c5b0 : decide (x9_1 < (l1.length : Int)) = true := dT c5
      clear c5
      by_cases c6 : (rd l1 x9_1) > a0
      ·rw [if_pos c6] at H
       have c6b0 : decide (a0 < (rd l1 x9_1)) = true := dT c6
       clear c6
       obtain rfl := Option.some.inj H
       have p143 : 0 ≤ (x9_1 : Int) := oT (by first | (with_reducible assumption) | assumption)
       have q143 : x9_1 < (l1.length : Int) := oT (by first | (with_reducible assumption) | assumption)
       obtain ⟨ad143, e143, hx143_0⟩ := Kd.at_int HR1.out x9_1 p143 q143
       cases e143
       replace p143 := eq_true p143
       replace q143 := eq_true q143
       go_wp2
       go_ret
       exact ⟨by first | rfl | (simp; done) | (simp [*]; done), by repeat (first | exact Drawn0.refl _ | apply Drawn0.step)⟩
      ·rw [if_neg c6] at H
       have c6b0 : decide (a0 < (rd l1 x9_1)) = false := dF c6
       clear c6
       by_cases c7 : (rd l1 x9_1) < (wrap64 (-a0))
       ·rw [if_pos c7] at H
        have c7b0 : decide ((rd l1 x9_1) < (wrap64 (-a0))) = true := dT c7
        clear c7
        obtain rfl := Option.some.inj H
        have p143 : 0 ≤ (x9_1 : Int) := oT (by first | (with_reducible assumption) | assumption)
        have q143 : x9_1 < (l1.length : Int) := oT (by first | (with_reducible assumption) | assumption)
        obtain ⟨ad143, e143, hx143_0⟩ := Kd.at_int HR1.out x9_1 p143 q143
        cases e143
        replace p143 := eq_true p143
        replace q143 := eq_true q143
        go_wp2
        go_ret
        exact ⟨by first | rfl | (simp; done) | (simp [*]; done), by repeat (first | exact Drawn0.refl _ | apply Drawn0.step)⟩
       ·rw [if_neg c7] at H
        have c7b0 : decide ((rd l1 x9_1) < (wrap64 (-a0))) = false := dF c7
        clear c7
        have H' := Aside0.mk H
        clear H
        have p143 : 0 ≤ (x9_1 : Int) := oT (by first | (with_reducible assumption) | assumption)
        have q143 : x9_1 < (l1.length : Int) := oT (by first | (with_reducible assumption) | assumption)
        obtain ⟨ad143, e143, hx143_0⟩ := Kd.at_int HR1.out x9_1 p143 q143
        cases e143
        replace p143 := eq_true p143
        replace q143 := eq_true q143
        go_wp2
        go_roundg k1
        case measure => have := HK1.out; omega
        case rel => exact ⟨(wrap64 (x9_1 + 1)), (by first | rfl | (simp; done) | (simp [*]; done)), H', ⟨by have := HK1.out; omega⟩, by repeat (first | exact Drawn0.refl _ | apply Drawn0.step)⟩
     ·rw [if_neg c5] at H
      exact absurd H (by simp)
    ·rw [if_neg c4] at H
     exact absurd H (by simp)
   ·rw [if_neg c3] at H
    have c3b0 : decide (x9_1 < (l1.length : Int)) = false := dF c3
    clear c3
    obtain rfl := Option.some.inj H
    go_wp2
    go_ret
    exact ⟨by first | rfl | (simp; done) | (simp [*]; done), by repeat (first | exact Drawn0.refl _ | apply Drawn0.step)⟩

end Go.Proofs.YteifflpjhlgpjaaDoor.X
