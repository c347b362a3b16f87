-- Written by a program of mine (wip/tools/xprint.py) over the kit's print.py: printed functions and hand-proved ones side by side.
import Derived.Test.YtnkgnjklkocojaaGreatDoorXx0
import Derived.Test.YtnkgnjklkocojaaGreatDoorXx2
import Derived.Test.YtnkgnjklkocojaaGreatDoorXx3
import Derived.Test.YtnkgnjklkocojaaGreatDoorXx5
import Derived.Test.YtnkgnjklkocojaaGreatDoorXx8
namespace Go.Proofs.YtnkgnjklkocojaaGreatDoor.X
open Go.RowKit Go.Proofs.YtnkgnjklkocojaaGreatDoorW.PrintWords Go.Proofs.YtnkgnjklkocojaaGreatDoorW.PrintLast Go.Proofs.YtnkgnjklkocojaaGreatDoorW.PrintMore
attribute [local go_sem] max2_int min2_int max_two min_two max_three min_three max_four min_four   -- for this text's walks alone
set_option linter.unusedVariables false
set_option linter.unusedSimpArgs false

/-! ### rational_Valid: function 71 -/
def rational_Valid.f (a0_0 : Int) (a0_1 : Int) : Option (Bool) := if a0_1 ≥ 1 then (if a0_1 ≤ 1000000000 then (if a0_0 ≥ (-1000000000) then (if a0_0 ≤ 1000000000 then ((rational_size.f a0_0).bind fun t135 => ((rational_size.f a0_1).bind fun t136 => ((rational_common.f t135 t136).bind fun t137 => (some (t137 == 1))))) else (some false)) else (some false)) else (some false)) else (some false)
set_option maxHeartbeats 8000000 in
set_option maxRecDepth 100000 in
theorem rational_Valid.calls (a0_0 : Int) (a0_1 : Int) (r : Bool) (w : World) (h : rational_Valid.f a0_0 a0_1 = some r) :
  Calls Tryz.prog 71 #[.agg #[.int .i64 a0_0, .int .i64 a0_1]] w fun e w' => e = .returned (.bool r) ∧ Below w.heap.size w w' := by
 have hu71 := Tryz.underlying71
 have HB := Aside0.mk (Below.refl w.heap.size w)
 have H : (if a0_1 ≥ 1 then (if a0_1 ≤ 1000000000 then (if a0_0 ≥ (-1000000000) then (if a0_0 ≤ 1000000000 then ((rational_size.f a0_0).bind fun t135 => ((rational_size.f a0_1).bind fun t136 => ((rational_common.f t135 t136).bind fun t137 => (some (t137 == 1))))) else (some false)) else (some false)) else (some false)) else (some false)) = some r := h
 clear h
 by_cases c2 : a0_1 ≥ 1
 ·rw [if_pos c2] at H
  have c2b0 : decide (1 ≤ a0_1) = true := dT c2
  clear c2
  by_cases c3 : a0_1 ≤ 1000000000
  ·rw [if_pos c3] at H
   have c3b0 : decide (a0_1 ≤ 1000000000) = true := dT c3
   clear c3
   by_cases c4 : a0_0 ≥ (-1000000000)
   ·rw [if_pos c4] at H
    have c4b0 : decide ((-1000000000) ≤ a0_0) = true := dT c4
    clear c4
    by_cases c5 : a0_0 ≤ 1000000000
    ·rw [if_pos c5] at H
     have c5b0 : decide (a0_0 ≤ 1000000000) = true := dT c5
     clear c5
     replace H := Option.bind_eq_some_iff.mp H
     obtain ⟨t135, A60, H⟩ := H
     replace H : ((rational_size.f a0_1).bind fun t136 => ((rational_common.f t135 t136).bind fun t137 => (some (t137 == 1)))) = some r := H
     have A6 := Aside0.mk A60
     clear A60
     replace H := Option.bind_eq_some_iff.mp H
     obtain ⟨t136, A70, H⟩ := H
     replace H : ((rational_common.f t135 t136).bind fun t137 => (some (t137 == 1))) = some r := H
     have A7 := Aside0.mk A70
     clear A70
     replace H := Option.bind_eq_some_iff.mp H
     obtain ⟨t137, A80, H⟩ := H
     replace H : (some (t137 == 1)) = some r := H
     have A8 := Aside0.mk A80
     clear A80
     obtain rfl := Option.some.inj H
     go_enter Tryz.func71, Tryz.ntmps71
     go_wp2_with (first | ((with_reducible refine gate_dst (N := 1) rfl ?_); refine box_event ?hg (N := 1) ?hd (cs := #[.int .i64 a0_0, .int .i64 a0_1]) (t := 71) ?hr ?_; (case hd => rfl); (case hg => rfl); (case hr => first | (go_simp; done) | (go_simp; rfl)); intro gb134 hg w9 hbox hb; have n0_ := Aside0.mk (bT (by repeat (first | (with_reducible first | exact HB.out | apply bA | apply bN | apply b1) | exact HB.out)) hb); have n1_ := Aside0.mk (hbox); have n2_ := Aside0.mk ((by rw [hg]; exact (bZ (by repeat (first | (with_reducible first | exact HB.out | apply bA | apply bN | apply b1) | exact HB.out))) : w.heap.size ≤ gb134)); have n3_ := n2_; clear HB; have HB := n0_; have BK134 := n1_; have GW134 := n2_; have GE134 := n3_; clear n0_ n1_ n2_ n3_; clear hb hbox hg; have hcz10_0 : w9.cell? ⟨gb134, 0, none⟩ = some (.int .i64 a0_0) := (kC BK134.out 0).trans rfl; have hcz10_1 : w9.cell? ⟨gb134, 1, none⟩ = some (.int .i64 a0_1) := (kC BK134.out 1).trans rfl; have hfz10_0 := blk_frozen BK134.out 0; have hfz10_1 := blk_frozen BK134.out 1) | (go_at_call 99; (with_reducible refine (rational_size.calls a0_0 t135 _ A6.out).mono ?_); rintro e w' ⟨rfl, ⟨nd, rfl⟩⟩; (try first | exact ⟨rfl, _, World.drewN_drewN _ _ _⟩ | exact ⟨rfl, _, Eq.trans (World.drewN_drewN _ _ _) (congrArg (World.drewN _) (Nat.add_assoc _ _ _))⟩)) | (go_at_call 99; (with_reducible refine (rational_size.calls a0_1 t136 _ A7.out).mono ?_); rintro e w' ⟨rfl, ⟨nd, rfl⟩⟩; (try first | exact ⟨rfl, _, World.drewN_drewN _ _ _⟩ | exact ⟨rfl, _, Eq.trans (World.drewN_drewN _ _ _) (congrArg (World.drewN _) (Nat.add_assoc _ _ _))⟩)) | (go_at_call 100; (with_reducible refine (rational_common.calls t135 t136 t137 _ A8.out).mono ?_); rintro e w' ⟨rfl, ⟨nd, rfl⟩⟩; (try first | exact ⟨rfl, _, World.drewN_drewN _ _ _⟩ | exact ⟨rfl, _, Eq.trans (World.drewN_drewN _ _ _) (congrArg (World.drewN _) (Nat.add_assoc _ _ _))⟩)))
     repeat (go_quiet (first | ((with_reducible refine gate_dst (N := 1) rfl ?_); refine box_event ?hg (N := 1) ?hd (cs := #[.int .i64 a0_0, .int .i64 a0_1]) (t := 71) ?hr ?_; (case hd => rfl); (case hg => rfl); (case hr => first | (go_simp; done) | (go_simp; rfl)); intro gb134 hg w9 hbox hb; have n0_ := Aside0.mk (bT (by repeat (first | (with_reducible first | exact HB.out | apply bA | apply bN | apply b1) | exact HB.out)) hb); have n1_ := Aside0.mk (hbox); have n2_ := Aside0.mk ((by rw [hg]; exact (bZ (by repeat (first | (with_reducible first | exact HB.out | apply bA | apply bN | apply b1) | exact HB.out))) : w.heap.size ≤ gb134)); have n3_ := n2_; clear HB; have HB := n0_; have BK134 := n1_; have GW134 := n2_; have GE134 := n3_; clear n0_ n1_ n2_ n3_; clear hb hbox hg; have hcz10_0 : w9.cell? ⟨gb134, 0, none⟩ = some (.int .i64 a0_0) := (kC BK134.out 0).trans rfl; have hcz10_1 : w9.cell? ⟨gb134, 1, none⟩ = some (.int .i64 a0_1) := (kC BK134.out 1).trans rfl; have hfz10_0 := blk_frozen BK134.out 0; have hfz10_1 := blk_frozen BK134.out 1) | (go_at_call 99; (with_reducible refine (rational_size.calls a0_0 t135 _ A6.out).mono ?_); rintro e w' ⟨rfl, ⟨nd, rfl⟩⟩; (try first | exact ⟨rfl, _, World.drewN_drewN _ _ _⟩ | exact ⟨rfl, _, Eq.trans (World.drewN_drewN _ _ _) (congrArg (World.drewN _) (Nat.add_assoc _ _ _))⟩)) | (go_at_call 99; (with_reducible refine (rational_size.calls a0_1 t136 _ A7.out).mono ?_); rintro e w' ⟨rfl, ⟨nd, rfl⟩⟩; (try first | exact ⟨rfl, _, World.drewN_drewN _ _ _⟩ | exact ⟨rfl, _, Eq.trans (World.drewN_drewN _ _ _) (congrArg (World.drewN _) (Nat.add_assoc _ _ _))⟩)) | (go_at_call 100; (with_reducible refine (rational_common.calls t135 t136 t137 _ A8.out).mono ?_); rintro e w' ⟨rfl, ⟨nd, rfl⟩⟩; (try first | exact ⟨rfl, _, World.drewN_drewN _ _ _⟩ | exact ⟨rfl, _, Eq.trans (World.drewN_drewN _ _ _) (congrArg (World.drewN _) (Nat.add_assoc _ _ _))⟩))); try go_wp2_with (first | ((with_reducible refine gate_dst (N := 1) rfl ?_); refine box_event ?hg (N := 1) ?hd (cs := #[.int .i64 a0_0, .int .i64 a0_1]) (t := 71) ?hr ?_; (case hd => rfl); (case hg => rfl); (case hr => first | (go_simp; done) | (go_simp; rfl)); intro gb134 hg w9 hbox hb; have n0_ := Aside0.mk (bT (by repeat (first | (with_reducible first | exact HB.out | apply bA | apply bN | apply b1) | exact HB.out)) hb); have n1_ := Aside0.mk (hbox); have n2_ := Aside0.mk ((by rw [hg]; exact (bZ (by repeat (first | (with_reducible first | exact HB.out | apply bA | apply bN | apply b1) | exact HB.out))) : w.heap.size ≤ gb134)); have n3_ := n2_; clear HB; have HB := n0_; have BK134 := n1_; have GW134 := n2_; have GE134 := n3_; clear n0_ n1_ n2_ n3_; clear hb hbox hg; have hcz10_0 : w9.cell? ⟨gb134, 0, none⟩ = some (.int .i64 a0_0) := (kC BK134.out 0).trans rfl; have hcz10_1 : w9.cell? ⟨gb134, 1, none⟩ = some (.int .i64 a0_1) := (kC BK134.out 1).trans rfl; have hfz10_0 := blk_frozen BK134.out 0; have hfz10_1 := blk_frozen BK134.out 1) | (go_at_call 99; (with_reducible refine (rational_size.calls a0_0 t135 _ A6.out).mono ?_); rintro e w' ⟨rfl, ⟨nd, rfl⟩⟩; (try first | exact ⟨rfl, _, World.drewN_drewN _ _ _⟩ | exact ⟨rfl, _, Eq.trans (World.drewN_drewN _ _ _) (congrArg (World.drewN _) (Nat.add_assoc _ _ _))⟩)) | (go_at_call 99; (with_reducible refine (rational_size.calls a0_1 t136 _ A7.out).mono ?_); rintro e w' ⟨rfl, ⟨nd, rfl⟩⟩; (try first | exact ⟨rfl, _, World.drewN_drewN _ _ _⟩ | exact ⟨rfl, _, Eq.trans (World.drewN_drewN _ _ _) (congrArg (World.drewN _) (Nat.add_assoc _ _ _))⟩)) | (go_at_call 100; (with_reducible refine (rational_common.calls t135 t136 t137 _ A8.out).mono ?_); rintro e w' ⟨rfl, ⟨nd, rfl⟩⟩; (try first | exact ⟨rfl, _, World.drewN_drewN _ _ _⟩ | exact ⟨rfl, _, Eq.trans (World.drewN_drewN _ _ _) (congrArg (World.drewN _) (Nat.add_assoc _ _ _))⟩))))
     go_ret
     exact ⟨by first | rfl | (simp [errW_none, errW_some] <;> rfl) | (simp [*, errW_none, errW_some] <;> rfl), by repeat (first | (with_reducible first | exact HB.out | apply bA | apply bN | apply b1 | refine bS ?_ GE134.out) | exact HB.out)⟩
    ·rw [if_neg c5] at H
     have c5b0 : decide (a0_0 ≤ 1000000000) = false := dF c5
     clear c5
     obtain rfl := Option.some.inj H
     go_enter Tryz.func71, Tryz.ntmps71
     go_wp2_with (first | ((with_reducible refine gate_dst (N := 1) rfl ?_); refine box_event ?hg (N := 1) ?hd (cs := #[.int .i64 a0_0, .int .i64 a0_1]) (t := 71) ?hr ?_; (case hd => rfl); (case hg => rfl); (case hr => first | (go_simp; done) | (go_simp; rfl)); intro gb134 hg w11 hbox hb; have n0_ := Aside0.mk (bT (by repeat (first | (with_reducible first | exact HB.out | apply bA | apply bN | apply b1) | exact HB.out)) hb); have n1_ := Aside0.mk (hbox); have n2_ := Aside0.mk ((by rw [hg]; exact (bZ (by repeat (first | (with_reducible first | exact HB.out | apply bA | apply bN | apply b1) | exact HB.out))) : w.heap.size ≤ gb134)); have n3_ := n2_; clear HB; have HB := n0_; have BK134 := n1_; have GW134 := n2_; have GE134 := n3_; clear n0_ n1_ n2_ n3_; clear hb hbox hg; have hcz12_0 : w11.cell? ⟨gb134, 0, none⟩ = some (.int .i64 a0_0) := (kC BK134.out 0).trans rfl; have hcz12_1 : w11.cell? ⟨gb134, 1, none⟩ = some (.int .i64 a0_1) := (kC BK134.out 1).trans rfl; have hfz12_0 := blk_frozen BK134.out 0; have hfz12_1 := blk_frozen BK134.out 1))
     repeat (go_quiet (first | ((with_reducible refine gate_dst (N := 1) rfl ?_); refine box_event ?hg (N := 1) ?hd (cs := #[.int .i64 a0_0, .int .i64 a0_1]) (t := 71) ?hr ?_; (case hd => rfl); (case hg => rfl); (case hr => first | (go_simp; done) | (go_simp; rfl)); intro gb134 hg w11 hbox hb; have n0_ := Aside0.mk (bT (by repeat (first | (with_reducible first | exact HB.out | apply bA | apply bN | apply b1) | exact HB.out)) hb); have n1_ := Aside0.mk (hbox); have n2_ := Aside0.mk ((by rw [hg]; exact (bZ (by repeat (first | (with_reducible first | exact HB.out | apply bA | apply bN | apply b1) | exact HB.out))) : w.heap.size ≤ gb134)); have n3_ := n2_; clear HB; have HB := n0_; have BK134 := n1_; have GW134 := n2_; have GE134 := n3_; clear n0_ n1_ n2_ n3_; clear hb hbox hg; have hcz12_0 : w11.cell? ⟨gb134, 0, none⟩ = some (.int .i64 a0_0) := (kC BK134.out 0).trans rfl; have hcz12_1 : w11.cell? ⟨gb134, 1, none⟩ = some (.int .i64 a0_1) := (kC BK134.out 1).trans rfl; have hfz12_0 := blk_frozen BK134.out 0; have hfz12_1 := blk_frozen BK134.out 1)); try go_wp2_with (first | ((with_reducible refine gate_dst (N := 1) rfl ?_); refine box_event ?hg (N := 1) ?hd (cs := #[.int .i64 a0_0, .int .i64 a0_1]) (t := 71) ?hr ?_; (case hd => rfl); (case hg => rfl); (case hr => first | (go_simp; done) | (go_simp; rfl)); intro gb134 hg w11 hbox hb; have n0_ := Aside0.mk (bT (by repeat (first | (with_reducible first | exact HB.out | apply bA | apply bN | apply b1) | exact HB.out)) hb); have n1_ := Aside0.mk (hbox); have n2_ := Aside0.mk ((by rw [hg]; exact (bZ (by repeat (first | (with_reducible first | exact HB.out | apply bA | apply bN | apply b1) | exact HB.out))) : w.heap.size ≤ gb134)); have n3_ := n2_; clear HB; have HB := n0_; have BK134 := n1_; have GW134 := n2_; have GE134 := n3_; clear n0_ n1_ n2_ n3_; clear hb hbox hg; have hcz12_0 : w11.cell? ⟨gb134, 0, none⟩ = some (.int .i64 a0_0) := (kC BK134.out 0).trans rfl; have hcz12_1 : w11.cell? ⟨gb134, 1, none⟩ = some (.int .i64 a0_1) := (kC BK134.out 1).trans rfl; have hfz12_0 := blk_frozen BK134.out 0; have hfz12_1 := blk_frozen BK134.out 1)))
     go_ret
     exact ⟨by first | rfl | (simp [errW_none, errW_some] <;> rfl) | (simp [*, errW_none, errW_some] <;> rfl), by repeat (first | (with_reducible first | exact HB.out | apply bA | apply bN | apply b1 | refine bS ?_ GE134.out) | exact HB.out)⟩
   ·rw [if_neg c4] at H
    have c4b0 : decide ((-1000000000) ≤ a0_0) = false := dF c4
    clear c4
    obtain rfl := Option.some.inj H
    go_enter Tryz.func71, Tryz.ntmps71
    go_wp2_with (first | ((with_reducible refine gate_dst (N := 1) rfl ?_); refine box_event ?hg (N := 1) ?hd (cs := #[.int .i64 a0_0, .int .i64 a0_1]) (t := 71) ?hr ?_; (case hd => rfl); (case hg => rfl); (case hr => first | (go_simp; done) | (go_simp; rfl)); intro gb134 hg w13 hbox hb; have n0_ := Aside0.mk (bT (by repeat (first | (with_reducible first | exact HB.out | apply bA | apply bN | apply b1) | exact HB.out)) hb); have n1_ := Aside0.mk (hbox); have n2_ := Aside0.mk ((by rw [hg]; exact (bZ (by repeat (first | (with_reducible first | exact HB.out | apply bA | apply bN | apply b1) | exact HB.out))) : w.heap.size ≤ gb134)); have n3_ := n2_; clear HB; have HB := n0_; have BK134 := n1_; have GW134 := n2_; have GE134 := n3_; clear n0_ n1_ n2_ n3_; clear hb hbox hg; have hcz14_0 : w13.cell? ⟨gb134, 0, none⟩ = some (.int .i64 a0_0) := (kC BK134.out 0).trans rfl; have hcz14_1 : w13.cell? ⟨gb134, 1, none⟩ = some (.int .i64 a0_1) := (kC BK134.out 1).trans rfl; have hfz14_0 := blk_frozen BK134.out 0; have hfz14_1 := blk_frozen BK134.out 1))
    repeat (go_quiet (first | ((with_reducible refine gate_dst (N := 1) rfl ?_); refine box_event ?hg (N := 1) ?hd (cs := #[.int .i64 a0_0, .int .i64 a0_1]) (t := 71) ?hr ?_; (case hd => rfl); (case hg => rfl); (case hr => first | (go_simp; done) | (go_simp; rfl)); intro gb134 hg w13 hbox hb; have n0_ := Aside0.mk (bT (by repeat (first | (with_reducible first | exact HB.out | apply bA | apply bN | apply b1) | exact HB.out)) hb); have n1_ := Aside0.mk (hbox); have n2_ := Aside0.mk ((by rw [hg]; exact (bZ (by repeat (first | (with_reducible first | exact HB.out | apply bA | apply bN | apply b1) | exact HB.out))) : w.heap.size ≤ gb134)); have n3_ := n2_; clear HB; have HB := n0_; have BK134 := n1_; have GW134 := n2_; have GE134 := n3_; clear n0_ n1_ n2_ n3_; clear hb hbox hg; have hcz14_0 : w13.cell? ⟨gb134, 0, none⟩ = some (.int .i64 a0_0) := (kC BK134.out 0).trans rfl; have hcz14_1 : w13.cell? ⟨gb134, 1, none⟩ = some (.int .i64 a0_1) := (kC BK134.out 1).trans rfl; have hfz14_0 := blk_frozen BK134.out 0; have hfz14_1 := blk_frozen BK134.out 1)); try go_wp2_with (first | ((with_reducible refine gate_dst (N := 1) rfl ?_); refine box_event ?hg (N := 1) ?hd (cs := #[.int .i64 a0_0, .int .i64 a0_1]) (t := 71) ?hr ?_; (case hd => rfl); (case hg => rfl); (case hr => first | (go_simp; done) | (go_simp; rfl)); intro gb134 hg w13 hbox hb; have n0_ := Aside0.mk (bT (by repeat (first | (with_reducible first | exact HB.out | apply bA | apply bN | apply b1) | exact HB.out)) hb); have n1_ := Aside0.mk (hbox); have n2_ := Aside0.mk ((by rw [hg]; exact (bZ (by repeat (first | (with_reducible first | exact HB.out | apply bA | apply bN | apply b1) | exact HB.out))) : w.heap.size ≤ gb134)); have n3_ := n2_; clear HB; have HB := n0_; have BK134 := n1_; have GW134 := n2_; have GE134 := n3_; clear n0_ n1_ n2_ n3_; clear hb hbox hg; have hcz14_0 : w13.cell? ⟨gb134, 0, none⟩ = some (.int .i64 a0_0) := (kC BK134.out 0).trans rfl; have hcz14_1 : w13.cell? ⟨gb134, 1, none⟩ = some (.int .i64 a0_1) := (kC BK134.out 1).trans rfl; have hfz14_0 := blk_frozen BK134.out 0; have hfz14_1 := blk_frozen BK134.out 1)))
    go_ret
    exact ⟨by first | rfl | (simp [errW_none, errW_some] <;> rfl) | (simp [*, errW_none, errW_some] <;> rfl), by repeat (first | (with_reducible first | exact HB.out | apply bA | apply bN | apply b1 | refine bS ?_ GE134.out) | exact HB.out)⟩
  ·rw [if_neg c3] at H
   have c3b0 : decide (a0_1 ≤ 1000000000) = false := dF c3
   clear c3
   obtain rfl := Option.some.inj H
   go_enter Tryz.func71, Tryz.ntmps71
   go_wp2_with (first | ((with_reducible refine gate_dst (N := 1) rfl ?_); refine box_event ?hg (N := 1) ?hd (cs := #[.int .i64 a0_0, .int .i64 a0_1]) (t := 71) ?hr ?_; (case hd => rfl); (case hg => rfl); (case hr => first | (go_simp; done) | (go_simp; rfl)); intro gb134 hg w15 hbox hb; have n0_ := Aside0.mk (bT (by repeat (first | (with_reducible first | exact HB.out | apply bA | apply bN | apply b1) | exact HB.out)) hb); have n1_ := Aside0.mk (hbox); have n2_ := Aside0.mk ((by rw [hg]; exact (bZ (by repeat (first | (with_reducible first | exact HB.out | apply bA | apply bN | apply b1) | exact HB.out))) : w.heap.size ≤ gb134)); have n3_ := n2_; clear HB; have HB := n0_; have BK134 := n1_; have GW134 := n2_; have GE134 := n3_; clear n0_ n1_ n2_ n3_; clear hb hbox hg; have hcz16_0 : w15.cell? ⟨gb134, 0, none⟩ = some (.int .i64 a0_0) := (kC BK134.out 0).trans rfl; have hcz16_1 : w15.cell? ⟨gb134, 1, none⟩ = some (.int .i64 a0_1) := (kC BK134.out 1).trans rfl; have hfz16_0 := blk_frozen BK134.out 0; have hfz16_1 := blk_frozen BK134.out 1))
   repeat (go_quiet (first | ((with_reducible refine gate_dst (N := 1) rfl ?_); refine box_event ?hg (N := 1) ?hd (cs := #[.int .i64 a0_0, .int .i64 a0_1]) (t := 71) ?hr ?_; (case hd => rfl); (case hg => rfl); (case hr => first | (go_simp; done) | (go_simp; rfl)); intro gb134 hg w15 hbox hb; have n0_ := Aside0.mk (bT (by repeat (first | (with_reducible first | exact HB.out | apply bA | apply bN | apply b1) | exact HB.out)) hb); have n1_ := Aside0.mk (hbox); have n2_ := Aside0.mk ((by rw [hg]; exact (bZ (by repeat (first | (with_reducible first | exact HB.out | apply bA | apply bN | apply b1) | exact HB.out))) : w.heap.size ≤ gb134)); have n3_ := n2_; clear HB; have HB := n0_; have BK134 := n1_; have GW134 := n2_; have GE134 := n3_; clear n0_ n1_ n2_ n3_; clear hb hbox hg; have hcz16_0 : w15.cell? ⟨gb134, 0, none⟩ = some (.int .i64 a0_0) := (kC BK134.out 0).trans rfl; have hcz16_1 : w15.cell? ⟨gb134, 1, none⟩ = some (.int .i64 a0_1) := (kC BK134.out 1).trans rfl; have hfz16_0 := blk_frozen BK134.out 0; have hfz16_1 := blk_frozen BK134.out 1)); try go_wp2_with (first | ((with_reducible refine gate_dst (N := 1) rfl ?_); refine box_event ?hg (N := 1) ?hd (cs := #[.int .i64 a0_0, .int .i64 a0_1]) (t := 71) ?hr ?_; (case hd => rfl); (case hg => rfl); (case hr => first | (go_simp; done) | (go_simp; rfl)); intro gb134 hg w15 hbox hb; have n0_ := Aside0.mk (bT (by repeat (first | (with_reducible first | exact HB.out | apply bA | apply bN | apply b1) | exact HB.out)) hb); have n1_ := Aside0.mk (hbox); have n2_ := Aside0.mk ((by rw [hg]; exact (bZ (by repeat (first | (with_reducible first | exact HB.out | apply bA | apply bN | apply b1) | exact HB.out))) : w.heap.size ≤ gb134)); have n3_ := n2_; clear HB; have HB := n0_; have BK134 := n1_; have GW134 := n2_; have GE134 := n3_; clear n0_ n1_ n2_ n3_; clear hb hbox hg; have hcz16_0 : w15.cell? ⟨gb134, 0, none⟩ = some (.int .i64 a0_0) := (kC BK134.out 0).trans rfl; have hcz16_1 : w15.cell? ⟨gb134, 1, none⟩ = some (.int .i64 a0_1) := (kC BK134.out 1).trans rfl; have hfz16_0 := blk_frozen BK134.out 0; have hfz16_1 := blk_frozen BK134.out 1)))
   go_ret
   exact ⟨by first | rfl | (simp [errW_none, errW_some] <;> rfl) | (simp [*, errW_none, errW_some] <;> rfl), by repeat (first | (with_reducible first | exact HB.out | apply bA | apply bN | apply b1 | refine bS ?_ GE134.out) | exact HB.out)⟩
 ·rw [if_neg c2] at H
  have c2b0 : decide (1 ≤ a0_1) = false := dF c2
  clear c2
  obtain rfl := Option.some.inj H
  go_enter Tryz.func71, Tryz.ntmps71
  go_wp2_with (first | ((with_reducible refine gate_dst (N := 1) rfl ?_); refine box_event ?hg (N := 1) ?hd (cs := #[.int .i64 a0_0, .int .i64 a0_1]) (t := 71) ?hr ?_; (case hd => rfl); (case hg => rfl); (case hr => first | (go_simp; done) | (go_simp; rfl)); intro gb134 hg w17 hbox hb; have n0_ := Aside0.mk (bT (by repeat (first | (with_reducible first | exact HB.out | apply bA | apply bN | apply b1) | exact HB.out)) hb); have n1_ := Aside0.mk (hbox); have n2_ := Aside0.mk ((by rw [hg]; exact (bZ (by repeat (first | (with_reducible first | exact HB.out | apply bA | apply bN | apply b1) | exact HB.out))) : w.heap.size ≤ gb134)); have n3_ := n2_; clear HB; have HB := n0_; have BK134 := n1_; have GW134 := n2_; have GE134 := n3_; clear n0_ n1_ n2_ n3_; clear hb hbox hg; have hcz18_0 : w17.cell? ⟨gb134, 0, none⟩ = some (.int .i64 a0_0) := (kC BK134.out 0).trans rfl; have hcz18_1 : w17.cell? ⟨gb134, 1, none⟩ = some (.int .i64 a0_1) := (kC BK134.out 1).trans rfl; have hfz18_0 := blk_frozen BK134.out 0; have hfz18_1 := blk_frozen BK134.out 1))
  repeat (go_quiet (first | ((with_reducible refine gate_dst (N := 1) rfl ?_); refine box_event ?hg (N := 1) ?hd (cs := #[.int .i64 a0_0, .int .i64 a0_1]) (t := 71) ?hr ?_; (case hd => rfl); (case hg => rfl); (case hr => first | (go_simp; done) | (go_simp; rfl)); intro gb134 hg w17 hbox hb; have n0_ := Aside0.mk (bT (by repeat (first | (with_reducible first | exact HB.out | apply bA | apply bN | apply b1) | exact HB.out)) hb); have n1_ := Aside0.mk (hbox); have n2_ := Aside0.mk ((by rw [hg]; exact (bZ (by repeat (first | (with_reducible first | exact HB.out | apply bA | apply bN | apply b1) | exact HB.out))) : w.heap.size ≤ gb134)); have n3_ := n2_; clear HB; have HB := n0_; have BK134 := n1_; have GW134 := n2_; have GE134 := n3_; clear n0_ n1_ n2_ n3_; clear hb hbox hg; have hcz18_0 : w17.cell? ⟨gb134, 0, none⟩ = some (.int .i64 a0_0) := (kC BK134.out 0).trans rfl; have hcz18_1 : w17.cell? ⟨gb134, 1, none⟩ = some (.int .i64 a0_1) := (kC BK134.out 1).trans rfl; have hfz18_0 := blk_frozen BK134.out 0; have hfz18_1 := blk_frozen BK134.out 1)); try go_wp2_with (first | ((with_reducible refine gate_dst (N := 1) rfl ?_); refine box_event ?hg (N := 1) ?hd (cs := #[.int .i64 a0_0, .int .i64 a0_1]) (t := 71) ?hr ?_; (case hd => rfl); (case hg => rfl); (case hr => first | (go_simp; done) | (go_simp; rfl)); intro gb134 hg w17 hbox hb; have n0_ := Aside0.mk (bT (by repeat (first | (with_reducible first | exact HB.out | apply bA | apply bN | apply b1) | exact HB.out)) hb); have n1_ := Aside0.mk (hbox); have n2_ := Aside0.mk ((by rw [hg]; exact (bZ (by repeat (first | (with_reducible first | exact HB.out | apply bA | apply bN | apply b1) | exact HB.out))) : w.heap.size ≤ gb134)); have n3_ := n2_; clear HB; have HB := n0_; have BK134 := n1_; have GW134 := n2_; have GE134 := n3_; clear n0_ n1_ n2_ n3_; clear hb hbox hg; have hcz18_0 : w17.cell? ⟨gb134, 0, none⟩ = some (.int .i64 a0_0) := (kC BK134.out 0).trans rfl; have hcz18_1 : w17.cell? ⟨gb134, 1, none⟩ = some (.int .i64 a0_1) := (kC BK134.out 1).trans rfl; have hfz18_0 := blk_frozen BK134.out 0; have hfz18_1 := blk_frozen BK134.out 1)))
  go_ret
  exact ⟨by first | rfl | (simp [errW_none, errW_some] <;> rfl) | (simp [*, errW_none, errW_some] <;> rfl), by repeat (first | (with_reducible first | exact HB.out | apply bA | apply bN | apply b1 | refine bS ?_ GE134.out) | exact HB.out)⟩

/-! ### money_Scale: function 42 -/
def money_Scale.j0 : Nat → Int → Bool → Int → Int → Option (Int × Int)
 | 0, _, _, _, _ => none
 | k + 1, x0, x16, x139000, x139001 => if x16 = true then (some (0, 1)) else (if (wrap64 (x0 * x139000)) < 0 then (if (wrap64 (2 * x139001)) = 0 then (none) else ((money_amount_valid.f (wrap64 (Int.tdiv (wrap64 ((wrap64 (2 * (wrap64 (x0 * x139000)))) + (wrap64 (-x139001)))) (wrap64 (2 * x139001))))).bind fun t141 => (if t141 = true then (some (wrap64 (Int.tdiv (wrap64 ((wrap64 (2 * (wrap64 (x0 * x139000)))) + (wrap64 (-x139001)))) (wrap64 (2 * x139001))), 0)) else (some (0, 3))))) else (if (wrap64 (2 * x139001)) = 0 then (none) else ((money_amount_valid.f (wrap64 (Int.tdiv (wrap64 ((wrap64 (2 * (wrap64 (x0 * x139000)))) + x139001)) (wrap64 (2 * x139001))))).bind fun t142 => (if t142 = true then (some (wrap64 (Int.tdiv (wrap64 ((wrap64 (2 * (wrap64 (x0 * x139000)))) + x139001)) (wrap64 (2 * x139001))), 0)) else (some (0, 3))))))
def money_Scale.f (k : Nat) (a0 : Int) (a1_0 : Int) (a1_1 : Int) : Option (Int × Int) := (money_amount_valid.f a0).bind fun t139 => (if t139 = true then ((rational_Valid.f a1_0 a1_1).bind fun t140 => (money_Scale.j0 k a0 (!t140) a1_0 a1_1)) else (money_Scale.j0 k a0 true a1_0 a1_1))
theorem money_Scale.mono_l : ∀ k, (∀ y0 y1 y2 y3, LeO (money_Scale.j0 k y0 y1 y2 y3) (money_Scale.j0 (k + 1) y0 y1 y2 y3))
 | 0 => fun _ _ _ _ r h => by simp [money_Scale.j0] at h
 | k + 1 => by
  have ih0 := money_Scale.mono_l k
  ·intro y0 y1 y2 y3
   unfold money_Scale.j0
   repeat' first
   | (with_reducible exact ih0 _ _ _ _)
   | (with_reducible exact LeO.refl _)
   | (with_reducible exact LeO.none _)
   | (with_reducible refine LeO.ite ?_ ?_)
   | (with_reducible refine LeO.bind ?_ (fun _ => ?_))
   | exact ih0 _ _ _ _
   | exact LeO.none _
   | refine LeO.ite ?_ ?_
   | refine LeO.bind ?_ (fun _ => ?_)
theorem money_Scale.mono : ∀ a0 a1 a2 k, LeO (money_Scale.f k a0 a1 a2) (money_Scale.f (k + 1) a0 a1 a2) := by
 intro a0 a1 a2 k
 have ih0 := money_Scale.mono_l k
 unfold money_Scale.f
 repeat' first
   | (with_reducible exact ih0 _ _ _ _)
   | (with_reducible exact LeO.refl _)
   | (with_reducible exact LeO.none _)
   | (with_reducible refine LeO.ite ?_ ?_)
   | (with_reducible refine LeO.bind ?_ (fun _ => ?_))
   | exact ih0 _ _ _ _
   | exact LeO.none _
   | refine LeO.ite ?_ ?_
   | refine LeO.bind ?_ (fun _ => ?_)
set_option maxHeartbeats 8000000 in
set_option maxRecDepth 100000 in
theorem money_Scale.calls (k : Nat) (a0 : Int) (a1_0 : Int) (a1_1 : Int) (r1 : Int) (r2 : Int) (w : World) (h : money_Scale.f k a0 a1_0 a1_1 = some (r1, r2)) :
  Calls Tryz.prog 42 #[.int .i64 a0, .agg #[.int .i64 a1_0, .int .i64 a1_1]] w fun e w' => e = .returned (.tuple #[.int .i64 r1, .int .i64 r2]) ∧ Below w.heap.size w w' := by
 have hu71 := Tryz.underlying71
 have HB := Aside0.mk (Below.refl w.heap.size w)
 have H : ((money_amount_valid.f a0).bind fun t139 => (if t139 = true then ((rational_Valid.f a1_0 a1_1).bind fun t140 => (money_Scale.j0 k a0 (!t140) a1_0 a1_1)) else (money_Scale.j0 k a0 true a1_0 a1_1))) = some (r1, r2) := h
 clear h
 have HC3 := Aside0.mk H
 clear H
 go_enter Tryz.func42, Tryz.ntmps42
 go_upto_region 1 with (first | ((with_reducible refine gate_dst (N := 3) rfl ?_); refine box_event ?hg (N := 3) ?hd (cs := #[.int .i64 a1_0, .int .i64 a1_1]) (t := 71) ?hr ?_; (case hd => rfl); (case hg => rfl); (case hr => first | (go_simp; done) | (go_simp; rfl)); intro gb138 hg w4 hbox hb; have n0_ := Aside0.mk (bT (by repeat (first | (with_reducible first | exact HB.out | apply bA | apply bN | apply b1) | exact HB.out)) hb); have n1_ := Aside0.mk (hbox); have n2_ := Aside0.mk ((by rw [hg]; exact (bZ (by repeat (first | (with_reducible first | exact HB.out | apply bA | apply bN | apply b1) | exact HB.out))) : w.heap.size ≤ gb138)); have n3_ := n2_; clear HB; have HB := n0_; have BK138 := n1_; have GW138 := n2_; have GE138 := n3_; clear n0_ n1_ n2_ n3_; clear hb hbox hg))
 repeat (go_quiet (first | ((with_reducible refine gate_dst (N := 3) rfl ?_); refine box_event ?hg (N := 3) ?hd (cs := #[.int .i64 a1_0, .int .i64 a1_1]) (t := 71) ?hr ?_; (case hd => rfl); (case hg => rfl); (case hr => first | (go_simp; done) | (go_simp; rfl)); intro gb138 hg w4 hbox hb; have n0_ := Aside0.mk (bT (by repeat (first | (with_reducible first | exact HB.out | apply bA | apply bN | apply b1) | exact HB.out)) hb); have n1_ := Aside0.mk (hbox); have n2_ := Aside0.mk ((by rw [hg]; exact (bZ (by repeat (first | (with_reducible first | exact HB.out | apply bA | apply bN | apply b1) | exact HB.out))) : w.heap.size ≤ gb138)); have n3_ := n2_; clear HB; have HB := n0_; have BK138 := n1_; have GW138 := n2_; have GE138 := n3_; clear n0_ n1_ n2_ n3_; clear hb hbox hg)); go_upto_region 1 with (first | ((with_reducible refine gate_dst (N := 3) rfl ?_); refine box_event ?hg (N := 3) ?hd (cs := #[.int .i64 a1_0, .int .i64 a1_1]) (t := 71) ?hr ?_; (case hd => rfl); (case hg => rfl); (case hr => first | (go_simp; done) | (go_simp; rfl)); intro gb138 hg w4 hbox hb; have n0_ := Aside0.mk (bT (by repeat (first | (with_reducible first | exact HB.out | apply bA | apply bN | apply b1) | exact HB.out)) hb); have n1_ := Aside0.mk (hbox); have n2_ := Aside0.mk ((by rw [hg]; exact (bZ (by repeat (first | (with_reducible first | exact HB.out | apply bA | apply bN | apply b1) | exact HB.out))) : w.heap.size ≤ gb138)); have n3_ := n2_; clear HB; have HB := n0_; have BK138 := n1_; have GW138 := n2_; have GE138 := n3_; clear n0_ n1_ n2_ n3_; clear hb hbox hg)))
 (try simp only [Act.put, List.setIfInBounds_toArray, List.set_cons_zero, List.set_cons_succ])
 go_cut [16] (fun v16 wc => ∃ (kq : Nat) (x16_2 : Bool), v16 = .bool x16_2 ∧ Aside0 (money_Scale.j0 kq a0 x16_2 a1_0 a1_1 = some (r1, r2)) ∧ Aside0 (kq ≤ k) ∧ Aside0 (wc.heap[gb138]? = some (.cells #[.int .i64 a1_0, .int .i64 a1_1] 71 (0, 0))) ∧ Aside0 (Below w.heap.size w wc))
 case first =>
  have H := HC3.out
  clear HC3
  replace H := Option.bind_eq_some_iff.mp H
  obtain ⟨t139, A50, H⟩ := H
  replace H : (if t139 = true then ((rational_Valid.f a1_0 a1_1).bind fun t140 => (money_Scale.j0 k a0 (!t140) a1_0 a1_1)) else (money_Scale.j0 k a0 true a1_0 a1_1)) = some (r1, r2) := H
  have A5 := Aside0.mk A50
  clear A50
  by_cases c6 : t139 = true
  ·subst c6
   have H1 : ((rational_Valid.f a1_0 a1_1).bind fun t140 => (money_Scale.j0 k a0 (!t140) a1_0 a1_1)) = some (r1, r2) := by rw [if_pos rfl] at H; exact H
   clear H
   have H := H1
   clear H1
   replace H := Option.bind_eq_some_iff.mp H
   obtain ⟨t140, A70, H⟩ := H
   replace H : (money_Scale.j0 k a0 (!t140) a1_0 a1_1) = some (r1, r2) := H
   have A7 := Aside0.mk A70
   clear A70
   have H' := Aside0.mk H
   clear H
   go_wp2_with (first | (go_at_call 70; (with_reducible refine (money_amount_valid.calls a0 true _ A5.out).mono ?_); rintro e w' ⟨rfl, ⟨nd, rfl⟩⟩; (try first | exact ⟨rfl, _, World.drewN_drewN _ _ _⟩ | exact ⟨rfl, _, Eq.trans (World.drewN_drewN _ _ _) (congrArg (World.drewN _) (Nat.add_assoc _ _ _))⟩); have hcz8_0 : w4.cell? ⟨gb138, 0, none⟩ = some (.int .i64 a1_0) := (kC BK138.out 0).trans rfl; have hcz8_1 : w4.cell? ⟨gb138, 1, none⟩ = some (.int .i64 a1_1) := (kC BK138.out 1).trans rfl; have hfz8_0 := blk_frozen BK138.out 0; have hfz8_1 := blk_frozen BK138.out 1) | (go_at_call 71; (with_reducible refine (rational_Valid.calls a1_0 a1_1 t140 _ A7.out).mono ?_); rintro e w9 ⟨rfl, hb⟩; have n0_ := Aside0.mk (kB (g := gb138) (o := .cells #[.int .i64 a1_0, .int .i64 a1_1] 71 (0, 0)) (by (with_reducible repeat (first | refine kN ?_ _ | refine kD ?_ | refine kA ?_ _)); exact BK138.out) hb); have n1_ := Aside0.mk (bT (by repeat (first | (with_reducible first | exact HB.out | apply bA | apply bN | apply b1 | refine bS ?_ GE138.out) | exact HB.out)) hb); clear BK138; clear HB; have BK138 := n0_; have HB := n1_; clear n0_ n1_; (try clear hb); (try clear hb2); (try clear hk); (try clear hi)))
   repeat (go_quiet (first | (go_at_call 70; (with_reducible refine (money_amount_valid.calls a0 true _ A5.out).mono ?_); rintro e w' ⟨rfl, ⟨nd, rfl⟩⟩; (try first | exact ⟨rfl, _, World.drewN_drewN _ _ _⟩ | exact ⟨rfl, _, Eq.trans (World.drewN_drewN _ _ _) (congrArg (World.drewN _) (Nat.add_assoc _ _ _))⟩); have hcz8_0 : w4.cell? ⟨gb138, 0, none⟩ = some (.int .i64 a1_0) := (kC BK138.out 0).trans rfl; have hcz8_1 : w4.cell? ⟨gb138, 1, none⟩ = some (.int .i64 a1_1) := (kC BK138.out 1).trans rfl; have hfz8_0 := blk_frozen BK138.out 0; have hfz8_1 := blk_frozen BK138.out 1) | (go_at_call 71; (with_reducible refine (rational_Valid.calls a1_0 a1_1 t140 _ A7.out).mono ?_); rintro e w9 ⟨rfl, hb⟩; have n0_ := Aside0.mk (kB (g := gb138) (o := .cells #[.int .i64 a1_0, .int .i64 a1_1] 71 (0, 0)) (by (with_reducible repeat (first | refine kN ?_ _ | refine kD ?_ | refine kA ?_ _)); exact BK138.out) hb); have n1_ := Aside0.mk (bT (by repeat (first | (with_reducible first | exact HB.out | apply bA | apply bN | apply b1 | refine bS ?_ GE138.out) | exact HB.out)) hb); clear BK138; clear HB; have BK138 := n0_; have HB := n1_; clear n0_ n1_; (try clear hb); (try clear hb2); (try clear hk); (try clear hi))); try go_wp2_with (first | (go_at_call 70; (with_reducible refine (money_amount_valid.calls a0 true _ A5.out).mono ?_); rintro e w' ⟨rfl, ⟨nd, rfl⟩⟩; (try first | exact ⟨rfl, _, World.drewN_drewN _ _ _⟩ | exact ⟨rfl, _, Eq.trans (World.drewN_drewN _ _ _) (congrArg (World.drewN _) (Nat.add_assoc _ _ _))⟩); have hcz8_0 : w4.cell? ⟨gb138, 0, none⟩ = some (.int .i64 a1_0) := (kC BK138.out 0).trans rfl; have hcz8_1 : w4.cell? ⟨gb138, 1, none⟩ = some (.int .i64 a1_1) := (kC BK138.out 1).trans rfl; have hfz8_0 := blk_frozen BK138.out 0; have hfz8_1 := blk_frozen BK138.out 1) | (go_at_call 71; (with_reducible refine (rational_Valid.calls a1_0 a1_1 t140 _ A7.out).mono ?_); rintro e w9 ⟨rfl, hb⟩; have n0_ := Aside0.mk (kB (g := gb138) (o := .cells #[.int .i64 a1_0, .int .i64 a1_1] 71 (0, 0)) (by (with_reducible repeat (first | refine kN ?_ _ | refine kD ?_ | refine kA ?_ _)); exact BK138.out) hb); have n1_ := Aside0.mk (bT (by repeat (first | (with_reducible first | exact HB.out | apply bA | apply bN | apply b1 | refine bS ?_ GE138.out) | exact HB.out)) hb); clear BK138; clear HB; have BK138 := n0_; have HB := n1_; clear n0_ n1_; (try clear hb); (try clear hb2); (try clear hk); (try clear hi))))
   go_meet
   case rel => exact ⟨_, (!t140), (by first | rfl | (simp; done) | (simp [*]; done)), H', ⟨by first | omega | exact Nat.le_refl _⟩, ⟨by (with_reducible repeat (first | refine kN ?_ _ | refine kD ?_ | refine kA ?_ _)); exact BK138.out⟩, ⟨by repeat (first | (with_reducible first | exact HB.out | apply bA | apply bN | apply b1 | refine bS ?_ GE138.out) | exact HB.out)⟩⟩
  ·replace c6 := Bool.eq_false_iff.mpr c6
   subst c6
   have H1 : (money_Scale.j0 k a0 true a1_0 a1_1) = some (r1, r2) := by rw [if_neg (show ¬ (false = true) by decide)] at H; exact H
   clear H
   have H := H1
   clear H1
   have H' := Aside0.mk H
   clear H
   go_wp2_with (first | (go_at_call 70; (with_reducible refine (money_amount_valid.calls a0 false _ A5.out).mono ?_); rintro e w' ⟨rfl, ⟨nd, rfl⟩⟩; (try first | exact ⟨rfl, _, World.drewN_drewN _ _ _⟩ | exact ⟨rfl, _, Eq.trans (World.drewN_drewN _ _ _) (congrArg (World.drewN _) (Nat.add_assoc _ _ _))⟩)))
   repeat (go_quiet (first | (go_at_call 70; (with_reducible refine (money_amount_valid.calls a0 false _ A5.out).mono ?_); rintro e w' ⟨rfl, ⟨nd, rfl⟩⟩; (try first | exact ⟨rfl, _, World.drewN_drewN _ _ _⟩ | exact ⟨rfl, _, Eq.trans (World.drewN_drewN _ _ _) (congrArg (World.drewN _) (Nat.add_assoc _ _ _))⟩))); try go_wp2_with (first | (go_at_call 70; (with_reducible refine (money_amount_valid.calls a0 false _ A5.out).mono ?_); rintro e w' ⟨rfl, ⟨nd, rfl⟩⟩; (try first | exact ⟨rfl, _, World.drewN_drewN _ _ _⟩ | exact ⟨rfl, _, Eq.trans (World.drewN_drewN _ _ _) (congrArg (World.drewN _) (Nat.add_assoc _ _ _))⟩))))
   go_meet
   case rel => exact ⟨_, (true), (by first | rfl | (simp; done) | (simp [*]; done)), H', ⟨by first | omega | exact Nat.le_refl _⟩, ⟨by (with_reducible repeat (first | refine kN ?_ _ | refine kD ?_ | refine kA ?_ _)); exact BK138.out⟩, ⟨by repeat (first | (with_reducible first | exact HB.out | apply bA | apply bN | apply b1 | refine bS ?_ GE138.out) | exact HB.out)⟩⟩
 case rest =>
  clear HC3
  try clear p2
  try clear c4
  try clear c6
  try clear hcz8_0
  try clear hcz8_1
  try clear hfz8_0
  try clear hfz8_1
  obtain ⟨kq, x16_2, rfl, HA, HJ2, BK138, HB⟩ := hcut
  cases kq with
  | zero => exact absurd HA.out (by simp [money_Scale.j0])
  | succ kj2 =>
   have H := HA.out
   clear HA
   simp only [money_Scale.j0] at H
   by_cases c10 : x16_2 = true
   ·subst c10
    have H1 : (some (0, 1)) = some (r1, r2) := by rw [if_pos rfl] at H; exact H
    clear H
    have H := H1
    clear H1
    simp only [Option.some.injEq, Prod.mk.injEq] at H
    obtain ⟨rfl, rfl⟩ := H
    go_wp2
    repeat (go_quiet (fail); try go_wp2)
    go_ret2
    exact ⟨by first | rfl | (simp [errW_none, errW_some] <;> rfl) | (simp [*, errW_none, errW_some] <;> rfl), by repeat (first | (with_reducible first | exact HB.out | apply bA | apply bN | apply b1 | refine bS ?_ GE138.out) | exact HB.out)⟩
   ·replace c10 := Bool.eq_false_iff.mpr c10
    subst c10
    have H1 : (if (wrap64 (a0 * a1_0)) < 0 then (if (wrap64 (2 * a1_1)) = 0 then (none) else ((money_amount_valid.f (wrap64 (Int.tdiv (wrap64 ((wrap64 (2 * (wrap64 (a0 * a1_0)))) + (wrap64 (-a1_1)))) (wrap64 (2 * a1_1))))).bind fun t141 => (if t141 = true then (some (wrap64 (Int.tdiv (wrap64 ((wrap64 (2 * (wrap64 (a0 * a1_0)))) + (wrap64 (-a1_1)))) (wrap64 (2 * a1_1))), 0)) else (some (0, 3))))) else (if (wrap64 (2 * a1_1)) = 0 then (none) else ((money_amount_valid.f (wrap64 (Int.tdiv (wrap64 ((wrap64 (2 * (wrap64 (a0 * a1_0)))) + a1_1)) (wrap64 (2 * a1_1))))).bind fun t142 => (if t142 = true then (some (wrap64 (Int.tdiv (wrap64 ((wrap64 (2 * (wrap64 (a0 * a1_0)))) + a1_1)) (wrap64 (2 * a1_1))), 0)) else (some (0, 3)))))) = some (r1, r2) := by rw [if_neg (show ¬ (false = true) by decide)] at H; exact H
    clear H
    have H := H1
    clear H1
    by_cases c11 : (wrap64 (a0 * a1_0)) < 0
    ·rw [if_pos c11] at H
     have c11b0 : decide ((wrap64 (a0 * a1_0)) < 0) = true := dT c11
     clear c11
     by_cases c12 : (wrap64 (2 * a1_1)) = 0
     ·rw [if_pos c12] at H
      exact absurd H (by simp)
     ·rw [if_neg c12] at H
      have c12b0 : ((wrap64 (2 * a1_1)) == 0) = false := beq_eq_false_iff_ne.mpr c12
      have c12b1 : ((wrap64 (2 * a1_1)) != 0) = true := bne_iff_ne.mpr c12
      replace H := Option.bind_eq_some_iff.mp H
      obtain ⟨t141, A130, H⟩ := H
      replace H : (if t141 = true then (some (wrap64 (Int.tdiv (wrap64 ((wrap64 (2 * (wrap64 (a0 * a1_0)))) + (wrap64 (-a1_1)))) (wrap64 (2 * a1_1))), 0)) else (some (0, 3))) = some (r1, r2) := H
      have A13 := Aside0.mk A130
      clear A130
      by_cases c14 : t141 = true
      ·subst c14
       have H1 : (some (wrap64 (Int.tdiv (wrap64 ((wrap64 (2 * (wrap64 (a0 * a1_0)))) + (wrap64 (-a1_1)))) (wrap64 (2 * a1_1))), 0)) = some (r1, r2) := by rw [if_pos rfl] at H; exact H
       clear H
       have H := H1
       clear H1
       simp only [Option.some.injEq, Prod.mk.injEq] at H
       obtain ⟨rfl, rfl⟩ := H
       have hcz15_0 : wc.cell? ⟨gb138, 0, none⟩ = some (.int .i64 a1_0) := (kC BK138.out 0).trans rfl
       have hcz15_1 : wc.cell? ⟨gb138, 1, none⟩ = some (.int .i64 a1_1) := (kC BK138.out 1).trans rfl
       have hfz15_0 := blk_frozen BK138.out 0
       have hfz15_1 := blk_frozen BK138.out 1
       go_wp2_with (first | (go_at_call 70; (with_reducible refine (money_amount_valid.calls (wrap64 (Int.tdiv (wrap64 ((wrap64 (2 * (wrap64 (a0 * a1_0)))) + (wrap64 (-a1_1)))) (wrap64 (2 * a1_1)))) true _ A13.out).mono ?_); rintro e w' ⟨rfl, ⟨nd, rfl⟩⟩; (try first | exact ⟨rfl, _, World.drewN_drewN _ _ _⟩ | exact ⟨rfl, _, Eq.trans (World.drewN_drewN _ _ _) (congrArg (World.drewN _) (Nat.add_assoc _ _ _))⟩)))
       repeat (go_quiet (first | (go_at_call 70; (with_reducible refine (money_amount_valid.calls (wrap64 (Int.tdiv (wrap64 ((wrap64 (2 * (wrap64 (a0 * a1_0)))) + (wrap64 (-a1_1)))) (wrap64 (2 * a1_1)))) true _ A13.out).mono ?_); rintro e w' ⟨rfl, ⟨nd, rfl⟩⟩; (try first | exact ⟨rfl, _, World.drewN_drewN _ _ _⟩ | exact ⟨rfl, _, Eq.trans (World.drewN_drewN _ _ _) (congrArg (World.drewN _) (Nat.add_assoc _ _ _))⟩))); try go_wp2_with (first | (go_at_call 70; (with_reducible refine (money_amount_valid.calls (wrap64 (Int.tdiv (wrap64 ((wrap64 (2 * (wrap64 (a0 * a1_0)))) + (wrap64 (-a1_1)))) (wrap64 (2 * a1_1)))) true _ A13.out).mono ?_); rintro e w' ⟨rfl, ⟨nd, rfl⟩⟩; (try first | exact ⟨rfl, _, World.drewN_drewN _ _ _⟩ | exact ⟨rfl, _, Eq.trans (World.drewN_drewN _ _ _) (congrArg (World.drewN _) (Nat.add_assoc _ _ _))⟩))))
       go_ret2
       exact ⟨by first | rfl | (simp [errW_none, errW_some] <;> rfl) | (simp [*, errW_none, errW_some] <;> rfl), by repeat (first | (with_reducible first | exact HB.out | apply bA | apply bN | apply b1 | refine bS ?_ GE138.out) | exact HB.out)⟩
      ·replace c14 := Bool.eq_false_iff.mpr c14
       subst c14
       have H1 : (some (0, 3)) = some (r1, r2) := by rw [if_neg (show ¬ (false = true) by decide)] at H; exact H
       clear H
       have H := H1
       clear H1
       simp only [Option.some.injEq, Prod.mk.injEq] at H
       obtain ⟨rfl, rfl⟩ := H
       have hcz16_0 : wc.cell? ⟨gb138, 0, none⟩ = some (.int .i64 a1_0) := (kC BK138.out 0).trans rfl
       have hcz16_1 : wc.cell? ⟨gb138, 1, none⟩ = some (.int .i64 a1_1) := (kC BK138.out 1).trans rfl
       have hfz16_0 := blk_frozen BK138.out 0
       have hfz16_1 := blk_frozen BK138.out 1
       go_wp2_with (first | (go_at_call 70; (with_reducible refine (money_amount_valid.calls (wrap64 (Int.tdiv (wrap64 ((wrap64 (2 * (wrap64 (a0 * a1_0)))) + (wrap64 (-a1_1)))) (wrap64 (2 * a1_1)))) false _ A13.out).mono ?_); rintro e w' ⟨rfl, ⟨nd, rfl⟩⟩; (try first | exact ⟨rfl, _, World.drewN_drewN _ _ _⟩ | exact ⟨rfl, _, Eq.trans (World.drewN_drewN _ _ _) (congrArg (World.drewN _) (Nat.add_assoc _ _ _))⟩)))
       repeat (go_quiet (first | (go_at_call 70; (with_reducible refine (money_amount_valid.calls (wrap64 (Int.tdiv (wrap64 ((wrap64 (2 * (wrap64 (a0 * a1_0)))) + (wrap64 (-a1_1)))) (wrap64 (2 * a1_1)))) false _ A13.out).mono ?_); rintro e w' ⟨rfl, ⟨nd, rfl⟩⟩; (try first | exact ⟨rfl, _, World.drewN_drewN _ _ _⟩ | exact ⟨rfl, _, Eq.trans (World.drewN_drewN _ _ _) (congrArg (World.drewN _) (Nat.add_assoc _ _ _))⟩))); try go_wp2_with (first | (go_at_call 70; (with_reducible refine (money_amount_valid.calls (wrap64 (Int.tdiv (wrap64 ((wrap64 (2 * (wrap64 (a0 * a1_0)))) + (wrap64 (-a1_1)))) (wrap64 (2 * a1_1)))) false _ A13.out).mono ?_); rintro e w' ⟨rfl, ⟨nd, rfl⟩⟩; (try first | exact ⟨rfl, _, World.drewN_drewN _ _ _⟩ | exact ⟨rfl, _, Eq.trans (World.drewN_drewN _ _ _) (congrArg (World.drewN _) (Nat.add_assoc _ _ _))⟩))))
       go_ret2
       exact ⟨by first | rfl | (simp [errW_none, errW_some] <;> rfl) | (simp [*, errW_none, errW_some] <;> rfl), by repeat (first | (with_reducible first | exact HB.out | apply bA | apply bN | apply b1 | refine bS ?_ GE138.out) | exact HB.out)⟩
    ·rw [if_neg c11] at H
     have c11b0 : decide ((wrap64 (a0 * a1_0)) < 0) = false := dF c11
     clear c11
     by_cases c17 : (wrap64 (2 * a1_1)) = 0
     ·rw [if_pos c17] at H
      exact absurd H (by simp)
     ·rw [if_neg c17] at H
      have c17b0 : ((wrap64 (2 * a1_1)) == 0) = false := beq_eq_false_iff_ne.mpr c17
      have c17b1 : ((wrap64 (2 * a1_1)) != 0) = true := bne_iff_ne.mpr c17
      replace H := Option.bind_eq_some_iff.mp H
      obtain ⟨t142, A180, H⟩ := H
      replace H : (if t142 = true then (some (wrap64 (Int.tdiv (wrap64 ((wrap64 (2 * (wrap64 (a0 * a1_0)))) + a1_1)) (wrap64 (2 * a1_1))), 0)) else (some (0, 3))) = some (r1, r2) := H
      have A18 := Aside0.mk A180
      clear A180
      by_cases c19 : t142 = true
      ·subst c19
       have H1 : (some (wrap64 (Int.tdiv (wrap64 ((wrap64 (2 * (wrap64 (a0 * a1_0)))) + a1_1)) (wrap64 (2 * a1_1))), 0)) = some (r1, r2) := by rw [if_pos rfl] at H; exact H
       clear H
       have H := H1
       clear H1
       simp only [Option.some.injEq, Prod.mk.injEq] at H
       obtain ⟨rfl, rfl⟩ := H
       have hcz20_0 : wc.cell? ⟨gb138, 0, none⟩ = some (.int .i64 a1_0) := (kC BK138.out 0).trans rfl
       have hcz20_1 : wc.cell? ⟨gb138, 1, none⟩ = some (.int .i64 a1_1) := (kC BK138.out 1).trans rfl
       have hfz20_0 := blk_frozen BK138.out 0
       have hfz20_1 := blk_frozen BK138.out 1
       go_wp2_with (first | (go_at_call 70; (with_reducible refine (money_amount_valid.calls (wrap64 (Int.tdiv (wrap64 ((wrap64 (2 * (wrap64 (a0 * a1_0)))) + a1_1)) (wrap64 (2 * a1_1)))) true _ A18.out).mono ?_); rintro e w' ⟨rfl, ⟨nd, rfl⟩⟩; (try first | exact ⟨rfl, _, World.drewN_drewN _ _ _⟩ | exact ⟨rfl, _, Eq.trans (World.drewN_drewN _ _ _) (congrArg (World.drewN _) (Nat.add_assoc _ _ _))⟩)))
       repeat (go_quiet (first | (go_at_call 70; (with_reducible refine (money_amount_valid.calls (wrap64 (Int.tdiv (wrap64 ((wrap64 (2 * (wrap64 (a0 * a1_0)))) + a1_1)) (wrap64 (2 * a1_1)))) true _ A18.out).mono ?_); rintro e w' ⟨rfl, ⟨nd, rfl⟩⟩; (try first | exact ⟨rfl, _, World.drewN_drewN _ _ _⟩ | exact ⟨rfl, _, Eq.trans (World.drewN_drewN _ _ _) (congrArg (World.drewN _) (Nat.add_assoc _ _ _))⟩))); try go_wp2_with (first | (go_at_call 70; (with_reducible refine (money_amount_valid.calls (wrap64 (Int.tdiv (wrap64 ((wrap64 (2 * (wrap64 (a0 * a1_0)))) + a1_1)) (wrap64 (2 * a1_1)))) true _ A18.out).mono ?_); rintro e w' ⟨rfl, ⟨nd, rfl⟩⟩; (try first | exact ⟨rfl, _, World.drewN_drewN _ _ _⟩ | exact ⟨rfl, _, Eq.trans (World.drewN_drewN _ _ _) (congrArg (World.drewN _) (Nat.add_assoc _ _ _))⟩))))
       go_ret2
       exact ⟨by first | rfl | (simp [errW_none, errW_some] <;> rfl) | (simp [*, errW_none, errW_some] <;> rfl), by repeat (first | (with_reducible first | exact HB.out | apply bA | apply bN | apply b1 | refine bS ?_ GE138.out) | exact HB.out)⟩
      ·replace c19 := Bool.eq_false_iff.mpr c19
       subst c19
       have H1 : (some (0, 3)) = some (r1, r2) := by rw [if_neg (show ¬ (false = true) by decide)] at H; exact H
       clear H
       have H := H1
       clear H1
       simp only [Option.some.injEq, Prod.mk.injEq] at H
       obtain ⟨rfl, rfl⟩ := H
       have hcz21_0 : wc.cell? ⟨gb138, 0, none⟩ = some (.int .i64 a1_0) := (kC BK138.out 0).trans rfl
       have hcz21_1 : wc.cell? ⟨gb138, 1, none⟩ = some (.int .i64 a1_1) := (kC BK138.out 1).trans rfl
       have hfz21_0 := blk_frozen BK138.out 0
       have hfz21_1 := blk_frozen BK138.out 1
       go_wp2_with (first | (go_at_call 70; (with_reducible refine (money_amount_valid.calls (wrap64 (Int.tdiv (wrap64 ((wrap64 (2 * (wrap64 (a0 * a1_0)))) + a1_1)) (wrap64 (2 * a1_1)))) false _ A18.out).mono ?_); rintro e w' ⟨rfl, ⟨nd, rfl⟩⟩; (try first | exact ⟨rfl, _, World.drewN_drewN _ _ _⟩ | exact ⟨rfl, _, Eq.trans (World.drewN_drewN _ _ _) (congrArg (World.drewN _) (Nat.add_assoc _ _ _))⟩)))
       repeat (go_quiet (first | (go_at_call 70; (with_reducible refine (money_amount_valid.calls (wrap64 (Int.tdiv (wrap64 ((wrap64 (2 * (wrap64 (a0 * a1_0)))) + a1_1)) (wrap64 (2 * a1_1)))) false _ A18.out).mono ?_); rintro e w' ⟨rfl, ⟨nd, rfl⟩⟩; (try first | exact ⟨rfl, _, World.drewN_drewN _ _ _⟩ | exact ⟨rfl, _, Eq.trans (World.drewN_drewN _ _ _) (congrArg (World.drewN _) (Nat.add_assoc _ _ _))⟩))); try go_wp2_with (first | (go_at_call 70; (with_reducible refine (money_amount_valid.calls (wrap64 (Int.tdiv (wrap64 ((wrap64 (2 * (wrap64 (a0 * a1_0)))) + a1_1)) (wrap64 (2 * a1_1)))) false _ A18.out).mono ?_); rintro e w' ⟨rfl, ⟨nd, rfl⟩⟩; (try first | exact ⟨rfl, _, World.drewN_drewN _ _ _⟩ | exact ⟨rfl, _, Eq.trans (World.drewN_drewN _ _ _) (congrArg (World.drewN _) (Nat.add_assoc _ _ _))⟩))))
       go_ret2
       exact ⟨by first | rfl | (simp [errW_none, errW_some] <;> rfl) | (simp [*, errW_none, errW_some] <;> rfl), by repeat (first | (with_reducible first | exact HB.out | apply bA | apply bN | apply b1 | refine bS ?_ GE138.out) | exact HB.out)⟩

/-! ### setoff_Interest: function 17 -/
mutual
def setoff_Interest.j0 : Nat → List (S39) → Int → List (S46) → Bool → Int → Int → Option (Int × Int)
 | 0, _, _, _, _, _, _ => none
 | k + 1, x0, x1, x3, x40, x144000, x144001 => if x40 = true then (some (0, 1)) else (setoff_Interest.l0 k x0 x1 ([] : List (S24)) x3 (x3.length : Int) 0 x144000 x144001)
def setoff_Interest.l0 : Nat → List (S39) → Int → List (S24) → List (S46) → Int → Int → Int → Int → Option (Int × Int)
 | 0, _, _, _, _, _, _, _, _ => none
 | k + 1, x0, x1, x10, x41, x42, x43, x144000, x144001 => if x43 < x42 then (if 0 ≤ x43 then (if x43 < (x41.length : Int) then ((setoff_between.f ((rd_T46 x41 x43).f0) 1 2).bind fun t152 => (if t152 = true then (if x10.length < 8796093022208 then (setoff_Interest.l0 k x0 x1 (x10 ++ [(⟨(rd_T46 x41 x43).f1.f0, (rd_T46 x41 x43).f1.f1⟩ : S24)]) x41 x42 (wrap64 (x43 + 1)) x144000 x144001) else (none)) else (some (0, 1)))) else (none)) else (none)) else ((span_Normal.f x10).bind fun bt156 => (if bt156.2 = 0 then ((span_Meet.f k (([(⟨x144000, x144001⟩ : S24)] : List (S24))) bt156.1).bind fun bt163 => ((span_Count.f k bt163.1).bind fun bt167 => ((setoff_late.f x0 x144000 (([3] : List Int))).bind fun bt172 => ((setoff_open.f k bt172.1).bind fun bt178 => (if bt178.2 = true then ((rational_Make.f (wrap64 (x1 * (wrap64 ((wrap64 (x144001 - x144000)) - bt167.1)))) 3650000).bind fun bt180 => ((money_Scale.f k bt178.1 bt180.1 bt180.2.1).bind fun bt184 => (some (bt184.1, bt184.2)))) else (some (0, 3))))))) else (some (0, 1))))
end
def setoff_Interest.f (k : Nat) (l0 : List (S39)) (a1 : Int) (a2_0 : Int) (a2_1 : Int) (l3 : List (S46)) : Option (Int × Int) := (setoff_Valid.f l0).bind fun t144 => (if t144 = true then ((setoff_between.f a1 0 10000).bind fun t145 => (if t145 = true then ((span_Valid.f k (([(⟨a2_0, a2_1⟩ : S24)] : List (S24)))).bind fun t149 => (if t149 = true then (setoff_Interest.j0 k l0 a1 l3 (decide ((l3.length : Int) > 1000)) a2_0 a2_1) else (setoff_Interest.j0 k l0 a1 l3 true a2_0 a2_1))) else (setoff_Interest.j0 k l0 a1 l3 true a2_0 a2_1))) else (setoff_Interest.j0 k l0 a1 l3 true a2_0 a2_1))
theorem setoff_Interest.mono_l : ∀ k, (∀ y0 y1 y2 y3 y4 y5, LeO (setoff_Interest.j0 k y0 y1 y2 y3 y4 y5) (setoff_Interest.j0 (k + 1) y0 y1 y2 y3 y4 y5)) ∧ (∀ y0 y1 y2 y3 y4 y5 y6 y7, LeO (setoff_Interest.l0 k y0 y1 y2 y3 y4 y5 y6 y7) (setoff_Interest.l0 (k + 1) y0 y1 y2 y3 y4 y5 y6 y7))
 | 0 => ⟨fun _ _ _ _ _ _ r h => by simp [setoff_Interest.j0] at h, fun _ _ _ _ _ _ _ _ r h => by simp [setoff_Interest.l0] at h⟩
 | k + 1 => by
  obtain ⟨ih0, ih1⟩ := setoff_Interest.mono_l k
  refine ⟨?_, ?_⟩
  ·intro y0 y1 y2 y3 y4 y5
   unfold setoff_Interest.j0
   repeat' first
   | (with_reducible exact ih0 _ _ _ _ _ _)
   | (with_reducible exact ih1 _ _ _ _ _ _ _ _)
   | (with_reducible exact money_Scale.mono _ _ _ _)
   | (with_reducible exact setoff_open.mono _ _)
   | (with_reducible exact span_Count.mono _ _)
   | (with_reducible exact span_Meet.mono _ _ _)
   | (with_reducible exact span_Valid.mono _ _)
   | (with_reducible exact LeO.refl _)
   | (with_reducible exact LeO.none _)
   | (with_reducible refine LeO.ite ?_ ?_)
   | (with_reducible refine LeO.bind ?_ (fun _ => ?_))
   | exact ih0 _ _ _ _ _ _
   | exact ih1 _ _ _ _ _ _ _ _
   | exact money_Scale.mono _ _ _ _
   | exact setoff_open.mono _ _
   | exact span_Count.mono _ _
   | exact span_Meet.mono _ _ _
   | exact span_Valid.mono _ _
   | exact LeO.none _
   | refine LeO.ite ?_ ?_
   | refine LeO.bind ?_ (fun _ => ?_)
  ·intro y0 y1 y2 y3 y4 y5 y6 y7
   unfold setoff_Interest.l0
   repeat' first
   | (with_reducible exact ih0 _ _ _ _ _ _)
   | (with_reducible exact ih1 _ _ _ _ _ _ _ _)
   | (with_reducible exact money_Scale.mono _ _ _ _)
   | (with_reducible exact setoff_open.mono _ _)
   | (with_reducible exact span_Count.mono _ _)
   | (with_reducible exact span_Meet.mono _ _ _)
   | (with_reducible exact span_Valid.mono _ _)
   | (with_reducible exact LeO.refl _)
   | (with_reducible exact LeO.none _)
   | (with_reducible refine LeO.ite ?_ ?_)
   | (with_reducible refine LeO.bind ?_ (fun _ => ?_))
   | exact ih0 _ _ _ _ _ _
   | exact ih1 _ _ _ _ _ _ _ _
   | exact money_Scale.mono _ _ _ _
   | exact setoff_open.mono _ _
   | exact span_Count.mono _ _
   | exact span_Meet.mono _ _ _
   | exact span_Valid.mono _ _
   | exact LeO.none _
   | refine LeO.ite ?_ ?_
   | refine LeO.bind ?_ (fun _ => ?_)
theorem setoff_Interest.mono : ∀ a0 a1 a2 a3 a4 k, LeO (setoff_Interest.f k a0 a1 a2 a3 a4) (setoff_Interest.f (k + 1) a0 a1 a2 a3 a4) := by
 intro a0 a1 a2 a3 a4 k
 obtain ⟨ih0, ih1⟩ := setoff_Interest.mono_l k
 unfold setoff_Interest.f
 repeat' first
   | (with_reducible exact ih0 _ _ _ _ _ _)
   | (with_reducible exact ih1 _ _ _ _ _ _ _ _)
   | (with_reducible exact money_Scale.mono _ _ _ _)
   | (with_reducible exact setoff_open.mono _ _)
   | (with_reducible exact span_Count.mono _ _)
   | (with_reducible exact span_Meet.mono _ _ _)
   | (with_reducible exact span_Valid.mono _ _)
   | (with_reducible exact LeO.refl _)
   | (with_reducible exact LeO.none _)
   | (with_reducible refine LeO.ite ?_ ?_)
   | (with_reducible refine LeO.bind ?_ (fun _ => ?_))
   | exact ih0 _ _ _ _ _ _
   | exact ih1 _ _ _ _ _ _ _ _
   | exact money_Scale.mono _ _ _ _
   | exact setoff_open.mono _ _
   | exact span_Count.mono _ _
   | exact span_Meet.mono _ _ _
   | exact span_Valid.mono _ _
   | exact LeO.none _
   | refine LeO.ite ?_ ?_
   | refine LeO.bind ?_ (fun _ => ?_)
set_option maxHeartbeats 8000000 in
set_option maxRecDepth 100000 in
theorem setoff_Interest.calls (k : Nat) (A0 : Option Addr) (c0 : Nat) (l0 : List (S39)) (a1 : Int) (a2_0 : Int) (a2_1 : Int) (A3 : Option Addr) (c3 : Nat) (l3 : List (S46)) (r1 : Int) (r2 : Int) (w : World) (hr0 : Kd.C k39 w A0 l0.length l0) (hc0 : l0.length ≤ c0) (hr3 : Kd.C k46 w A3 l3.length l3) (hc3 : l3.length ≤ c3) (h : setoff_Interest.f k l0 a1 a2_0 a2_1 l3 = some (r1, r2)) :
  Calls Tryz.prog 17 #[.slice A0 l0.length c0, .int .i64 a1, .agg #[.int .i64 a2_0, .int .i64 a2_1], .slice A3 l3.length c3] w fun e w' => e = .returned (.tuple #[.int .i64 r1, .int .i64 r2]) ∧ Below w.heap.size w w' := by
 have hu24 := Tryz.underlying24
 have hu46 := Tryz.underlying46
 have hu71 := Tryz.underlying71
 have HR0 := Aside0.mk hr0
 have HC0 := Aside0.mk hc0
 clear hr0 hc0
 have HR3 := Aside0.mk hr3
 have HC3 := Aside0.mk hc3
 clear hr3 hc3
 have HB := Aside0.mk (Below.refl w.heap.size w)
 have H : ((setoff_Valid.f l0).bind fun t144 => (if t144 = true then ((setoff_between.f a1 0 10000).bind fun t145 => (if t145 = true then ((span_Valid.f k (([(⟨a2_0, a2_1⟩ : S24)] : List (S24)))).bind fun t149 => (if t149 = true then (setoff_Interest.j0 k l0 a1 l3 (decide ((l3.length : Int) > 1000)) a2_0 a2_1) else (setoff_Interest.j0 k l0 a1 l3 true a2_0 a2_1))) else (setoff_Interest.j0 k l0 a1 l3 true a2_0 a2_1))) else (setoff_Interest.j0 k l0 a1 l3 true a2_0 a2_1))) = some (r1, r2) := h
 clear h
 have HC5 := Aside0.mk H
 clear H
 go_enter Tryz.func17, Tryz.ntmps17
 go_upto_region 1 with (first | ((with_reducible refine gate_dst (N := 6) rfl ?_); (try (refine gate_guard (by rfl) ?_; dsimp only)); refine box_event ?hg (N := 6) ?hd (cs := #[.int .i64 a2_0, .int .i64 a2_1]) (t := 24) ?hr ?_; (case hd => rfl); (case hg => rfl); (case hr => first | (go_simp; done) | (go_simp; rfl)); intro gb143 hg w6 hbox hb; have n0_ := Aside0.mk (bT (by repeat (first | (with_reducible first | exact HB.out | apply bA | apply bN | apply b1) | exact HB.out)) hb); have n1_ := Aside0.mk (hbox); have n2_ := Aside0.mk ((by rw [hg]; exact (bZ (by repeat (first | (with_reducible first | exact HB.out | apply bA | apply bN | apply b1) | exact HB.out))) : w.heap.size ≤ gb143)); have n3_ := n2_; clear HB; have HB := n0_; have BK143 := n1_; have GW143 := n2_; have GE143 := n3_; clear n0_ n1_ n2_ n3_; clear hb hbox hg))
 (try simp only [Act.put, List.setIfInBounds_toArray, List.set_cons_zero, List.set_cons_succ])
 go_cut [40] (fun v40 wc => ∃ (kq : Nat) (x40_4 : Bool), v40 = .bool x40_4 ∧ Aside0 (setoff_Interest.j0 kq l0 a1 l3 x40_4 a2_0 a2_1 = some (r1, r2)) ∧ Aside0 (kq ≤ k) ∧ Aside0 (wc.heap[gb143]? = some (.cells #[.int .i64 a2_0, .int .i64 a2_1] 24 (0, 0))) ∧ Aside0 (Below w.heap.size w wc))
 case first =>
  have H := HC5.out
  clear HC5
  replace H := Option.bind_eq_some_iff.mp H
  obtain ⟨t144, A70, H⟩ := H
  replace H : (if t144 = true then ((setoff_between.f a1 0 10000).bind fun t145 => (if t145 = true then ((span_Valid.f k (([(⟨a2_0, a2_1⟩ : S24)] : List (S24)))).bind fun t149 => (if t149 = true then (setoff_Interest.j0 k l0 a1 l3 (decide ((l3.length : Int) > 1000)) a2_0 a2_1) else (setoff_Interest.j0 k l0 a1 l3 true a2_0 a2_1))) else (setoff_Interest.j0 k l0 a1 l3 true a2_0 a2_1))) else (setoff_Interest.j0 k l0 a1 l3 true a2_0 a2_1)) = some (r1, r2) := H
  have A7 := Aside0.mk A70
  clear A70
  by_cases c8 : t144 = true
  ·subst c8
   have H1 : ((setoff_between.f a1 0 10000).bind fun t145 => (if t145 = true then ((span_Valid.f k (([(⟨a2_0, a2_1⟩ : S24)] : List (S24)))).bind fun t149 => (if t149 = true then (setoff_Interest.j0 k l0 a1 l3 (decide ((l3.length : Int) > 1000)) a2_0 a2_1) else (setoff_Interest.j0 k l0 a1 l3 true a2_0 a2_1))) else (setoff_Interest.j0 k l0 a1 l3 true a2_0 a2_1))) = some (r1, r2) := by rw [if_pos rfl] at H; exact H
   clear H
   have H := H1
   clear H1
   replace H := Option.bind_eq_some_iff.mp H
   obtain ⟨t145, A90, H⟩ := H
   replace H : (if t145 = true then ((span_Valid.f k (([(⟨a2_0, a2_1⟩ : S24)] : List (S24)))).bind fun t149 => (if t149 = true then (setoff_Interest.j0 k l0 a1 l3 (decide ((l3.length : Int) > 1000)) a2_0 a2_1) else (setoff_Interest.j0 k l0 a1 l3 true a2_0 a2_1))) else (setoff_Interest.j0 k l0 a1 l3 true a2_0 a2_1)) = some (r1, r2) := H
   have A9 := Aside0.mk A90
   clear A90
   by_cases c10 : t145 = true
   ·subst c10
    have H1 : ((span_Valid.f k (([(⟨a2_0, a2_1⟩ : S24)] : List (S24)))).bind fun t149 => (if t149 = true then (setoff_Interest.j0 k l0 a1 l3 (decide ((l3.length : Int) > 1000)) a2_0 a2_1) else (setoff_Interest.j0 k l0 a1 l3 true a2_0 a2_1))) = some (r1, r2) := by rw [if_pos rfl] at H; exact H
    clear H
    have H := H1
    clear H1
    obtain ⟨y146, hy146⟩ : ∃ y_ : List (S24), y_ = (([(⟨a2_0, a2_1⟩ : S24)] : List (S24))) := ⟨_, rfl⟩
    replace H : ((span_Valid.f k y146).bind fun t149 => (if t149 = true then (setoff_Interest.j0 k l0 a1 l3 (decide ((l3.length : Int) > 1000)) a2_0 a2_1) else (setoff_Interest.j0 k l0 a1 l3 true a2_0 a2_1))) = some (r1, r2) := by first | (rw [hy146]; with_reducible exact H) | (have H2_ := (Option.bind_some _ _).symm.trans H; rw [hy146]; with_reducible exact H2_) | (have H2_ := (Option.bind_some _ _).symm.trans H; with_reducible exact H2_) | with_reducible exact H | (rw [hy146]; exact H) | exact H
    have Ny146 := Aside0.mk hy146
    clear hy146
    replace H := Option.bind_eq_some_iff.mp H
    obtain ⟨t149, A110, H⟩ := H
    replace H : (if t149 = true then (setoff_Interest.j0 k l0 a1 l3 (decide ((l3.length : Int) > 1000)) a2_0 a2_1) else (setoff_Interest.j0 k l0 a1 l3 true a2_0 a2_1)) = some (r1, r2) := H
    have A11 := Aside0.mk A110
    clear A110
    by_cases c12 : t149 = true
    ·subst c12
     have H1 : (setoff_Interest.j0 k l0 a1 l3 (decide ((l3.length : Int) > 1000)) a2_0 a2_1) = some (r1, r2) := by rw [if_pos rfl] at H; exact H
     clear H
     have H := H1
     clear H1
     have H' := Aside0.mk H
     clear H
     go_wp2_with (first | ((with_reducible refine gate_callee (f := 12) rfl ?_); refine goesL_ (some 23) rfl rfl Tryz.func12 (by kernel_rfl) rfl #[.slice A0 l0.length c0] rfl (by (try simp only [List.map_toArray, List.map_cons, List.map_nil]); first | done | rfl | (simp only [List.length_drop, List.length_take]; rfl)) ?_; (with_reducible refine (setoff_Valid.calls _ _ l0 true _ ?side1 ?side2 A7.out).mono ?_); (case side1 => repeat (first | exact (Kd.C_below HR0.out HB.out) | (with_reducible refine Kd.C_alloc ?_ _) | (with_reducible refine Kd.C_drewN ?_ _) | (with_reducible refine Kd.C_drew ?_))); (case side2 => exact HC0.out); rintro e w13 ⟨rfl, hb⟩; refine ⟨_, rfl, ?_⟩; have n0_ := Aside0.mk (kB (g := gb143) (o := .cells #[.int .i64 a2_0, .int .i64 a2_1] 24 (0, 0)) (by (with_reducible repeat (first | refine kN ?_ _ | refine kD ?_ | refine kA ?_ _)); exact BK143.out) hb); have n1_ := Aside0.mk (bT (by repeat (first | (with_reducible first | exact HB.out | apply bA | apply bN | apply b1 | refine bS ?_ GE143.out) | exact HB.out)) hb); clear BK143; clear HB; have BK143 := n0_; have HB := n1_; clear n0_ n1_; (try clear hb); (try clear hb2); (try clear hk); (try clear hi)) | (go_at_call 27; (with_reducible refine (setoff_between.calls a1 0 10000 true _ A9.out).mono ?_); rintro e w' ⟨rfl, ⟨nd, rfl⟩⟩; have hcz14_0 : w13.cell? ⟨gb143, 0, none⟩ = some (.int .i64 a2_0) := (kC BK143.out 0).trans rfl; have hcz14_1 : w13.cell? ⟨gb143, 1, none⟩ = some (.int .i64 a2_1) := (kC BK143.out 1).trans rfl; have hfz14_0 := blk_frozen BK143.out 0; have hfz14_1 := blk_frozen BK143.out 1) | ((with_reducible refine gate_dst (N := 32) rfl ?_); (try (refine gate_guard (by rfl) ?_; dsimp only)); refine Kd.R_lit k24 _ 24 ?hg (N := 32) ?hd (xs := ([(⟨a2_0, a2_1⟩ : S24)] : List (S24))) (inner := [.int .i64 a2_0, .int .i64 a2_1]) (ok := fun _ => True) (okp := fun _ => True) ?hr ?hp (fun _ hk => hk) trivial (Below.refl _ _) (Nat.le_refl _) (by simp) ?_; (case hd => rfl); (case hg => rfl); (case hr => first | (go_simp; done) | (go_simp; rfl)); (case hp => exact (Reps.c2 (show Kd.M k24 _ _ _ (⟨a2_0, a2_1⟩ : S24) [.int .i64 a2_0, .int .i64 a2_1] from (k24_mkM _ _ _ (⟨a2_0, a2_1⟩ : S24) )) (Reps.none _ _))); intro v147 w15 ho16 hb hg_ hnew_; clear hg_ hnew_; (first | rw [← Ny146.out] at ho16 | (simp only [Int.reduceToNat] at ho16; rw [← Ny146.out] at ho16)); have n0_ := Aside0.mk (Kd.R_lower (Kd.R_newB ho16 (g := gb143) (o := .cells #[.int .i64 a2_0, .int .i64 a2_1] 24 (0, 0)) (by (with_reducible repeat (first | refine kN ?_ _ | refine kD ?_ | refine kA ?_ _)); exact BK143.out)) (bZ (by repeat (first | (with_reducible first | exact HB.out | apply bA | apply bN | apply b1 | refine bS ?_ GE143.out) | exact HB.out)))); have n1_ := Aside0.mk (kB (g := gb143) (o := .cells #[.int .i64 a2_0, .int .i64 a2_1] 24 (0, 0)) (by (with_reducible repeat (first | refine kN ?_ _ | refine kD ?_ | refine kA ?_ _)); exact BK143.out) hb); have n2_ := Aside0.mk (bT (by repeat (first | (with_reducible first | exact HB.out | apply bA | apply bN | apply b1 | refine bS ?_ GE143.out) | exact HB.out)) hb); clear BK143; clear HB; have HO148 := n0_; have BK143 := n1_; have HB := n2_; clear n0_ n1_ n2_; clear hb ho16; obtain ⟨Ao17, co17, eo17⟩ := Kd.R_slice HO148.out; subst eo17) | (go_at_call 37; (with_reducible refine (span_Valid.calls k _ _ y146 true _ ?side1 ?side2 A11.out).mono ?_); (case side1 => repeat (first | exact (Kd.R_reads' HO148.out).2.2 | (with_reducible refine Kd.C_alloc ?_ _) | (with_reducible refine Kd.C_drewN ?_ _) | (with_reducible refine Kd.C_drew ?_))); (case side2 => exact (Kd.R_reads' HO148.out).2.1); rintro e w18 ⟨rfl, hb⟩; have n0_ := Aside0.mk (Kd.R_below (by (with_reducible repeat (first | apply Kd.R_alloc | apply Kd.R_drewN | apply Kd.R_drew)); exact HO148.out) hb); have n1_ := Aside0.mk (kB (g := gb143) (o := .cells #[.int .i64 a2_0, .int .i64 a2_1] 24 (0, 0)) (by (with_reducible repeat (first | refine kN ?_ _ | refine kD ?_ | refine kA ?_ _)); exact BK143.out) hb); have n2_ := Aside0.mk (bT (by repeat (first | (with_reducible first | exact HB.out | apply bA | apply bN | apply b1 | refine bS ?_ GE143.out) | exact HB.out)) hb); clear HO148; clear BK143; clear HB; have HO148 := n0_; have BK143 := n1_; have HB := n2_; clear n0_ n1_ n2_; (try clear hb); (try clear hb2); (try clear hk); (try clear hi)))
     go_meet
     case rel => exact ⟨_, (decide ((l3.length : Int) > 1000)), (by first | rfl | (simp; done) | (simp [*]; done)), H', ⟨by first | omega | exact Nat.le_refl _⟩, ⟨by (with_reducible repeat (first | refine kN ?_ _ | refine kD ?_ | refine kA ?_ _)); exact BK143.out⟩, ⟨by repeat (first | (with_reducible first | exact HB.out | apply bA | apply bN | apply b1 | refine bS ?_ GE143.out) | exact HB.out)⟩⟩
    ·replace c12 := Bool.eq_false_iff.mpr c12
     subst c12
     have H1 : (setoff_Interest.j0 k l0 a1 l3 true a2_0 a2_1) = some (r1, r2) := by rw [if_neg (show ¬ (false = true) by decide)] at H; exact H
     clear H
     have H := H1
     clear H1
     have H' := Aside0.mk H
     clear H
     go_wp2_with (first | ((with_reducible refine gate_callee (f := 12) rfl ?_); refine goesL_ (some 23) rfl rfl Tryz.func12 (by kernel_rfl) rfl #[.slice A0 l0.length c0] rfl (by (try simp only [List.map_toArray, List.map_cons, List.map_nil]); first | done | rfl | (simp only [List.length_drop, List.length_take]; rfl)) ?_; (with_reducible refine (setoff_Valid.calls _ _ l0 true _ ?side1 ?side2 A7.out).mono ?_); (case side1 => repeat (first | exact (Kd.C_below HR0.out HB.out) | (with_reducible refine Kd.C_alloc ?_ _) | (with_reducible refine Kd.C_drewN ?_ _) | (with_reducible refine Kd.C_drew ?_))); (case side2 => exact HC0.out); rintro e w19 ⟨rfl, hb⟩; refine ⟨_, rfl, ?_⟩; have n0_ := Aside0.mk (kB (g := gb143) (o := .cells #[.int .i64 a2_0, .int .i64 a2_1] 24 (0, 0)) (by (with_reducible repeat (first | refine kN ?_ _ | refine kD ?_ | refine kA ?_ _)); exact BK143.out) hb); have n1_ := Aside0.mk (bT (by repeat (first | (with_reducible first | exact HB.out | apply bA | apply bN | apply b1 | refine bS ?_ GE143.out) | exact HB.out)) hb); clear BK143; clear HB; have BK143 := n0_; have HB := n1_; clear n0_ n1_; (try clear hb); (try clear hb2); (try clear hk); (try clear hi)) | (go_at_call 27; (with_reducible refine (setoff_between.calls a1 0 10000 true _ A9.out).mono ?_); rintro e w' ⟨rfl, ⟨nd, rfl⟩⟩; have hcz20_0 : w19.cell? ⟨gb143, 0, none⟩ = some (.int .i64 a2_0) := (kC BK143.out 0).trans rfl; have hcz20_1 : w19.cell? ⟨gb143, 1, none⟩ = some (.int .i64 a2_1) := (kC BK143.out 1).trans rfl; have hfz20_0 := blk_frozen BK143.out 0; have hfz20_1 := blk_frozen BK143.out 1) | ((with_reducible refine gate_dst (N := 32) rfl ?_); (try (refine gate_guard (by rfl) ?_; dsimp only)); refine Kd.R_lit k24 _ 24 ?hg (N := 32) ?hd (xs := ([(⟨a2_0, a2_1⟩ : S24)] : List (S24))) (inner := [.int .i64 a2_0, .int .i64 a2_1]) (ok := fun _ => True) (okp := fun _ => True) ?hr ?hp (fun _ hk => hk) trivial (Below.refl _ _) (Nat.le_refl _) (by simp) ?_; (case hd => rfl); (case hg => rfl); (case hr => first | (go_simp; done) | (go_simp; rfl)); (case hp => exact (Reps.c2 (show Kd.M k24 _ _ _ (⟨a2_0, a2_1⟩ : S24) [.int .i64 a2_0, .int .i64 a2_1] from (k24_mkM _ _ _ (⟨a2_0, a2_1⟩ : S24) )) (Reps.none _ _))); intro v147 w21 ho22 hb hg_ hnew_; clear hg_ hnew_; (first | rw [← Ny146.out] at ho22 | (simp only [Int.reduceToNat] at ho22; rw [← Ny146.out] at ho22)); have n0_ := Aside0.mk (Kd.R_lower (Kd.R_newB ho22 (g := gb143) (o := .cells #[.int .i64 a2_0, .int .i64 a2_1] 24 (0, 0)) (by (with_reducible repeat (first | refine kN ?_ _ | refine kD ?_ | refine kA ?_ _)); exact BK143.out)) (bZ (by repeat (first | (with_reducible first | exact HB.out | apply bA | apply bN | apply b1 | refine bS ?_ GE143.out) | exact HB.out)))); have n1_ := Aside0.mk (kB (g := gb143) (o := .cells #[.int .i64 a2_0, .int .i64 a2_1] 24 (0, 0)) (by (with_reducible repeat (first | refine kN ?_ _ | refine kD ?_ | refine kA ?_ _)); exact BK143.out) hb); have n2_ := Aside0.mk (bT (by repeat (first | (with_reducible first | exact HB.out | apply bA | apply bN | apply b1 | refine bS ?_ GE143.out) | exact HB.out)) hb); clear BK143; clear HB; have HO148 := n0_; have BK143 := n1_; have HB := n2_; clear n0_ n1_ n2_; clear hb ho22; obtain ⟨Ao23, co23, eo23⟩ := Kd.R_slice HO148.out; subst eo23) | (go_at_call 37; (with_reducible refine (span_Valid.calls k _ _ y146 false _ ?side1 ?side2 A11.out).mono ?_); (case side1 => repeat (first | exact (Kd.R_reads' HO148.out).2.2 | (with_reducible refine Kd.C_alloc ?_ _) | (with_reducible refine Kd.C_drewN ?_ _) | (with_reducible refine Kd.C_drew ?_))); (case side2 => exact (Kd.R_reads' HO148.out).2.1); rintro e w24 ⟨rfl, hb⟩; have n0_ := Aside0.mk (Kd.R_below (by (with_reducible repeat (first | apply Kd.R_alloc | apply Kd.R_drewN | apply Kd.R_drew)); exact HO148.out) hb); have n1_ := Aside0.mk (kB (g := gb143) (o := .cells #[.int .i64 a2_0, .int .i64 a2_1] 24 (0, 0)) (by (with_reducible repeat (first | refine kN ?_ _ | refine kD ?_ | refine kA ?_ _)); exact BK143.out) hb); have n2_ := Aside0.mk (bT (by repeat (first | (with_reducible first | exact HB.out | apply bA | apply bN | apply b1 | refine bS ?_ GE143.out) | exact HB.out)) hb); clear HO148; clear BK143; clear HB; have HO148 := n0_; have BK143 := n1_; have HB := n2_; clear n0_ n1_ n2_; (try clear hb); (try clear hb2); (try clear hk); (try clear hi)))
     go_meet
     case rel => exact ⟨_, (true), (by first | rfl | (simp; done) | (simp [*]; done)), H', ⟨by first | omega | exact Nat.le_refl _⟩, ⟨by (with_reducible repeat (first | refine kN ?_ _ | refine kD ?_ | refine kA ?_ _)); exact BK143.out⟩, ⟨by repeat (first | (with_reducible first | exact HB.out | apply bA | apply bN | apply b1 | refine bS ?_ GE143.out) | exact HB.out)⟩⟩
   ·replace c10 := Bool.eq_false_iff.mpr c10
    subst c10
    have H1 : (setoff_Interest.j0 k l0 a1 l3 true a2_0 a2_1) = some (r1, r2) := by rw [if_neg (show ¬ (false = true) by decide)] at H; exact H
    clear H
    have H := H1
    clear H1
    have H' := Aside0.mk H
    clear H
    go_wp2_with (first | ((with_reducible refine gate_callee (f := 12) rfl ?_); refine goesL_ (some 23) rfl rfl Tryz.func12 (by kernel_rfl) rfl #[.slice A0 l0.length c0] rfl (by (try simp only [List.map_toArray, List.map_cons, List.map_nil]); first | done | rfl | (simp only [List.length_drop, List.length_take]; rfl)) ?_; (with_reducible refine (setoff_Valid.calls _ _ l0 true _ ?side1 ?side2 A7.out).mono ?_); (case side1 => repeat (first | exact (Kd.C_below HR0.out HB.out) | (with_reducible refine Kd.C_alloc ?_ _) | (with_reducible refine Kd.C_drewN ?_ _) | (with_reducible refine Kd.C_drew ?_))); (case side2 => exact HC0.out); rintro e w25 ⟨rfl, hb⟩; refine ⟨_, rfl, ?_⟩; have n0_ := Aside0.mk (kB (g := gb143) (o := .cells #[.int .i64 a2_0, .int .i64 a2_1] 24 (0, 0)) (by (with_reducible repeat (first | refine kN ?_ _ | refine kD ?_ | refine kA ?_ _)); exact BK143.out) hb); have n1_ := Aside0.mk (bT (by repeat (first | (with_reducible first | exact HB.out | apply bA | apply bN | apply b1 | refine bS ?_ GE143.out) | exact HB.out)) hb); clear BK143; clear HB; have BK143 := n0_; have HB := n1_; clear n0_ n1_; (try clear hb); (try clear hb2); (try clear hk); (try clear hi)) | (go_at_call 27; (with_reducible refine (setoff_between.calls a1 0 10000 false _ A9.out).mono ?_); rintro e w' ⟨rfl, ⟨nd, rfl⟩⟩))
    go_meet
    case rel => exact ⟨_, (true), (by first | rfl | (simp; done) | (simp [*]; done)), H', ⟨by first | omega | exact Nat.le_refl _⟩, ⟨by (with_reducible repeat (first | refine kN ?_ _ | refine kD ?_ | refine kA ?_ _)); exact BK143.out⟩, ⟨by repeat (first | (with_reducible first | exact HB.out | apply bA | apply bN | apply b1 | refine bS ?_ GE143.out) | exact HB.out)⟩⟩
  ·replace c8 := Bool.eq_false_iff.mpr c8
   subst c8
   have H1 : (setoff_Interest.j0 k l0 a1 l3 true a2_0 a2_1) = some (r1, r2) := by rw [if_neg (show ¬ (false = true) by decide)] at H; exact H
   clear H
   have H := H1
   clear H1
   have H' := Aside0.mk H
   clear H
   go_wp2_with (first | ((with_reducible refine gate_callee (f := 12) rfl ?_); refine goesL_ (some 23) rfl rfl Tryz.func12 (by kernel_rfl) rfl #[.slice A0 l0.length c0] rfl (by (try simp only [List.map_toArray, List.map_cons, List.map_nil]); first | done | rfl | (simp only [List.length_drop, List.length_take]; rfl)) ?_; (with_reducible refine (setoff_Valid.calls _ _ l0 false _ ?side1 ?side2 A7.out).mono ?_); (case side1 => repeat (first | exact (Kd.C_below HR0.out HB.out) | (with_reducible refine Kd.C_alloc ?_ _) | (with_reducible refine Kd.C_drewN ?_ _) | (with_reducible refine Kd.C_drew ?_))); (case side2 => exact HC0.out); rintro e w26 ⟨rfl, hb⟩; refine ⟨_, rfl, ?_⟩; have n0_ := Aside0.mk (kB (g := gb143) (o := .cells #[.int .i64 a2_0, .int .i64 a2_1] 24 (0, 0)) (by (with_reducible repeat (first | refine kN ?_ _ | refine kD ?_ | refine kA ?_ _)); exact BK143.out) hb); have n1_ := Aside0.mk (bT (by repeat (first | (with_reducible first | exact HB.out | apply bA | apply bN | apply b1 | refine bS ?_ GE143.out) | exact HB.out)) hb); clear BK143; clear HB; have BK143 := n0_; have HB := n1_; clear n0_ n1_; (try clear hb); (try clear hb2); (try clear hk); (try clear hi)))
   go_meet
   case rel => exact ⟨_, (true), (by first | rfl | (simp; done) | (simp [*]; done)), H', ⟨by first | omega | exact Nat.le_refl _⟩, ⟨by (with_reducible repeat (first | refine kN ?_ _ | refine kD ?_ | refine kA ?_ _)); exact BK143.out⟩, ⟨by repeat (first | (with_reducible first | exact HB.out | apply bA | apply bN | apply b1 | refine bS ?_ GE143.out) | exact HB.out)⟩⟩
 case rest =>
  clear HC5
  try clear c1
  try clear c2
  try clear p2
  try clear c3
  try clear c8
  try clear c10
  try clear c12
  try clear c17
  try clear hcz14_0
  try clear hcz14_1
  try clear hcz20_0
  try clear hcz20_1
  try clear hfz14_0
  try clear hfz14_1
  try clear hfz20_0
  try clear hfz20_1
  obtain ⟨kq, x40_4, rfl, HA, HJ4, BK143, HB⟩ := hcut
  cases kq with
  | zero => exact absurd HA.out (by simp [setoff_Interest.j0])
  | succ kj4 =>
   have H := HA.out
   clear HA
   simp only [setoff_Interest.j0] at H
   by_cases c27 : x40_4 = true
   ·subst c27
    have H1 : (some (0, 1)) = some (r1, r2) := by rw [if_pos rfl] at H; exact H
    clear H
    have H := H1
    clear H1
    simp only [Option.some.injEq, Prod.mk.injEq] at H
    obtain ⟨rfl, rfl⟩ := H
    go_wp2
    go_ret2
    exact ⟨by first | rfl | (simp [errW_none, errW_some] <;> rfl) | (simp [*, errW_none, errW_some] <;> rfl), by repeat (first | (with_reducible first | exact HB.out | apply bA | apply bN | apply b1 | refine bS ?_ GE143.out) | exact HB.out)⟩
   ·replace c27 := Bool.eq_false_iff.mpr c27
    subst c27
    have H1 : (setoff_Interest.l0 kj4 l0 a1 ([] : List (S24)) l3 (l3.length : Int) 0 a2_0 a2_1) = some (r1, r2) := by rw [if_neg (show ¬ (false = true) by decide)] at H; exact H
    clear H
    have H := H1
    clear H1
    have H' := Aside0.mk H
    clear H
    go_wp2
    go_loopg [10, 43] kj4 (fun kq v10 v43 w' => ∃ (x10_2 : List (S24)) (x43_2 : Int), v43 = .int .i64 x43_2 ∧ Aside0 (setoff_Interest.l0 kq l0 a1 x10_2 l3 (l3.length : Int) x43_2 a2_0 a2_1 = some (r1, r2)) ∧ Aside0 (kq ≤ kj4) ∧ Aside0 (Kd.R k24 24 w' w.heap.size (fun k_ => k_ ≠ gb143) v10 x10_2) ∧ Aside0 (w'.heap[gb143]? = some (.cells #[.int .i64 a2_0, .int .i64 a2_1] 24 (0, 0))) ∧ Aside0 (Below w.heap.size w w'))
    case atStart => exact ⟨(([] : List (S24))), (0), (by first | rfl | (simp; done) | (simp [*]; done)), H', ⟨Nat.le_refl _⟩, ⟨by first | exact Kd.R_nil _ _ _ _ _ | exact Kd.N_nil _ _ _ _ _ | exact Kd.V_nil _ _ _ _ _ | exact Kd.Q_nil _ _ _ _ _ | exact Kd.S_nil _ _ _ _ _⟩, ⟨by (with_reducible repeat (first | refine kN ?_ _ | refine kD ?_ | refine kA ?_ _)); exact BK143.out⟩, ⟨by repeat (first | (with_reducible first | exact HB.out | apply bA | apply bN | apply b1 | refine bS ?_ GE143.out) | exact HB.out)⟩⟩
    case round =>
     clear H'
     try clear c1
     try clear c2
     try clear p2
     try clear c3
     try clear c8
     try clear c10
     try clear c12
     try clear c17
     try clear c27
     try clear hcz14_0
     try clear hcz14_1
     try clear hcz20_0
     try clear hcz20_1
     try clear hfz14_0
     try clear hfz14_1
     try clear hfz20_0
     try clear hfz20_1
     try clear p2
     obtain ⟨x10_2, x43_2, rfl, HA, HK2, HO_10, BK143, HB⟩ := hrel
     cases gk with
     | zero => exact absurd HA.out (by simp [setoff_Interest.l0])
     | succ k2 =>
      have H := HA.out
      clear HA
      simp only [setoff_Interest.l0] at H
      by_cases c28 : x43_2 < (l3.length : Int)
      ·rw [if_pos c28] at H
       have c28b0 : decide (x43_2 < (l3.length : Int)) = true := dT c28
       clear c28
       by_cases c29 : 0 ≤ x43_2
       ·rw [if_pos c29] at H
        have c29b0 : decide (0 ≤ x43_2) = true := dT c29
        clear c29
        by_cases c30 : x43_2 < (l3.length : Int)
        ·rw [if_pos c30] at H
         have c30b0 : decide (x43_2 < (l3.length : Int)) = true := dT c30
         clear c30
         replace H := Option.bind_eq_some_iff.mp H
         obtain ⟨t152, A310, H⟩ := H
         replace H : (if t152 = true then (if x10_2.length < 8796093022208 then (setoff_Interest.l0 k2 l0 a1 (x10_2 ++ [(⟨(rd_T46 l3 x43_2).f1.f0, (rd_T46 l3 x43_2).f1.f1⟩ : S24)]) l3 (l3.length : Int) (wrap64 (x43_2 + 1)) a2_0 a2_1) else (none)) else (some (0, 1))) = some (r1, r2) := H
         have A31 := Aside0.mk A310
         clear A310
         by_cases c32 : t152 = true
         ·subst c32
          have H1 : (if x10_2.length < 8796093022208 then (setoff_Interest.l0 k2 l0 a1 (x10_2 ++ [(⟨(rd_T46 l3 x43_2).f1.f0, (rd_T46 l3 x43_2).f1.f1⟩ : S24)]) l3 (l3.length : Int) (wrap64 (x43_2 + 1)) a2_0 a2_1) else (none)) = some (r1, r2) := by rw [if_pos rfl] at H; exact H
          clear H
          have H := H1
          clear H1
          by_cases c33 : x10_2.length < 8796093022208
          ·rw [if_pos c33] at H
           have LMc33 := Aside0.mk c33
           clear c33
           obtain ⟨y153, hy153⟩ : ∃ y_ : List (S24), y_ = (x10_2 ++ [(⟨(rd_T46 l3 x43_2).f1.f0, (rd_T46 l3 x43_2).f1.f1⟩ : S24)]) := ⟨_, rfl⟩
           replace H : (setoff_Interest.l0 k2 l0 a1 y153 l3 (l3.length : Int) (wrap64 (x43_2 + 1)) a2_0 a2_1) = some (r1, r2) := by first | (rw [hy153]; with_reducible exact H) | (have H2_ := (Option.bind_some _ _).symm.trans H; rw [hy153]; with_reducible exact H2_) | (have H2_ := (Option.bind_some _ _).symm.trans H; with_reducible exact H2_) | with_reducible exact H | (rw [hy153]; exact H) | exact H
           have Ny153 := Aside0.mk hy153
           clear hy153
           have H' := Aside0.mk H
           clear H
           have p150 : 0 ≤ (x43_2 : Int) := oT (by first | (with_reducible assumption) | assumption)
           have q150 : x43_2 < (l3.length : Int) := oT (by first | (with_reducible assumption) | assumption)
           obtain ⟨ad150, e150, hx150_0, hx150_1, hx150_2⟩ := at_T46 HR3.out x43_2 p150 q150
           cases e150
           replace hx150_0 := (HB.out.cell (World.block_lt_of_cell? w _ hx150_0)).trans hx150_0
           replace hx150_1 := (HB.out.cell (World.block_lt_of_cell? w _ hx150_1)).trans hx150_1
           replace hx150_2 := (HB.out.cell (World.block_lt_of_cell? w _ hx150_2)).trans hx150_2
           replace p150 := eq_true p150
           replace q150 := eq_true q150
           go_wp2_with (first | ((with_reducible refine gate_dst (N := 12) rfl ?_); (try (refine gate_guard (by rfl) ?_; dsimp only)); refine box_event ?hg (N := 12) ?hd (cs := #[.int .i64 0, .int .i64 0, .int .i64 0]) (t := 46) ?hr ?_; (case hd => rfl); (case hg => rfl); (case hr => first | (go_simp; done) | (go_simp; rfl)); intro gb151 hg w34 hbox hb; have n0_ := Aside0.mk (Kd.R_below (by (with_reducible repeat (first | apply Kd.R_alloc | apply Kd.R_drewN | apply Kd.R_drew)); exact HO_10.out) hb); have n1_ := Aside0.mk (kB (g := gb143) (o := .cells #[.int .i64 a2_0, .int .i64 a2_1] 24 (0, 0)) (by (with_reducible repeat (first | refine kN ?_ _ | refine kD ?_ | refine kA ?_ _)); exact BK143.out) hb); have n2_ := Aside0.mk (bT (by repeat (first | (with_reducible first | exact HB.out | apply bA | apply bN | apply b1 | refine bS ?_ GE143.out) | exact HB.out)) hb); have n3_ := Aside0.mk (hbox); have n4_ := Aside0.mk ((by rw [hg]; exact (bZ (by repeat (first | (with_reducible first | exact HB.out | apply bA | apply bN | apply b1 | refine bS ?_ GE143.out) | exact HB.out))) : w.heap.size ≤ gb151)); have n5_ := n4_; have n6_ := Aside0.mk ((by rw [hg]; exact Nat.ne_of_lt (blk_lt (g := gb143) (o := .cells #[.int .i64 a2_0, .int .i64 a2_1] 24 (0, 0)) (by (with_reducible repeat (first | refine kN ?_ _ | refine kD ?_ | refine kA ?_ _)); exact BK143.out)) : gb143 ≠ gb151)); have n7_ := Aside0.mk n6_.out.symm; clear HO_10; clear BK143; clear HB; have HO_10 := n0_; have BK143 := n1_; have HB := n2_; have BK151 := n3_; have GW151 := n4_; have GE151 := n5_; have NB143_151 := n6_; have NB151_143 := n7_; clear n0_ n1_ n2_ n3_ n4_ n5_ n6_ n7_; clear hb hbox hg; have hnb35 := NB151_143.out; have hnc35 := NB143_151.out; have hcz36_0 : w34.cell? ⟨gb151, 0, none⟩ = some (.int .i64 0) := (kC BK151.out 0).trans rfl; have hcz36_1 : w34.cell? ⟨gb151, 1, none⟩ = some (.int .i64 0) := (kC BK151.out 1).trans rfl; have hcz36_2 : w34.cell? ⟨gb151, 2, none⟩ = some (.int .i64 0) := (kC BK151.out 2).trans rfl; have hfz36_0 := blk_frozen BK151.out 0; have hfz36_1 := blk_frozen BK151.out 1; have hfz36_2 := blk_frozen BK151.out 2) | ((with_reducible refine gate_callee (f := 27) rfl ?_); refine goesL_ (some 49) rfl rfl Tryz.func27 (by kernel_rfl) rfl #[.int .i64 ((rd_T46 l3 x43_2).f0), .int .i64 1, .int .i64 2] rfl (by (try simp only [List.map_toArray, List.map_cons, List.map_nil]); first | done | rfl | (simp only [List.length_drop, List.length_take]; rfl)) ?_; (with_reducible refine (setoff_between.calls ((rd_T46 l3 x43_2).f0) 1 2 true _ A31.out).mono ?_); rintro e w' ⟨rfl, ⟨nd, rfl⟩⟩; refine ⟨_, rfl, ?_⟩) | ((with_reducible refine gate_builtin (b := .append) (xs := #[.tmp 51, .tmp 54]) rfl ?_); (try (refine gate_guard (by rfl) ?_; dsimp only)); at_builtin; refine Kd.R_append k24 (w0 := w) w.heap.size rfl (.tmp 51) (.tmp 54) 65 24 (.agg #[(.int .i64 0), (.int .i64 0)]) 16 rfl Tryz.underlying65 info24 rfl (by decide) (by omega) u10 x10_2 (⟨(rd_T46 l3 x43_2).f1.f0, (rd_T46 l3 x43_2).f1.f1⟩ : S24) [.int .i64 ((rd_T46 l3 x43_2).f1.f0), .int .i64 ((rd_T46 l3 x43_2).f1.f1)] (fun k_ => k_ ≠ gb143) (fun _ => False) rfl (by first | (go_simp; done) | (go_simp; rfl)) ?aP (fun _ hk => hk.elim) ?aF ?aO ?aB ?aS ?aL ?_; (case aP => exact k24_mkM _ _ _ (⟨(rd_T46 l3 x43_2).f1.f0, (rd_T46 l3 x43_2).f1.f1⟩ : S24)); (case aB => exact (by repeat (first | (with_reducible first | exact HB.out | apply bA | apply bN | apply b1 | refine bS ?_ GE143.out | refine bS ?_ GE151.out) | exact HB.out))); (case aF => exact (fun k_ hk => Kd.freshB (g := gb143) (o := .cells #[.int .i64 a2_0, .int .i64 a2_1] 24 (0, 0)) (by (with_reducible repeat (first | refine kN ?_ _ | refine kD ?_ | refine kA ?_ _)); refine kF ?_ NB143_151.out _; (with_reducible repeat (first | refine kN ?_ _ | refine kD ?_ | refine kA ?_ _)); refine kF ?_ NB143_151.out _; (with_reducible repeat (first | refine kN ?_ _ | refine kD ?_ | refine kA ?_ _)); refine kF ?_ NB143_151.out _; (with_reducible repeat (first | refine kN ?_ _ | refine kD ?_ | refine kA ?_ _)); exact BK143.out) k_ hk)); (case aO => exact (by (with_reducible repeat (first | apply Kd.R_alloc | apply Kd.R_drewN | apply Kd.R_drew)); exact Kd.R_mono (Kd.R_far (p := ⟨gb151, 2, none⟩) (Kd.R_far (p := ⟨gb151, 1, none⟩) (Kd.R_far (p := ⟨gb151, 0, none⟩) (Kd.R_types HO_10.out BK151.out (by decide)) (fun _ hk => hk.2) (.int .i64 ((rd_T46 l3 x43_2).f0))) (fun _ hk => hk.2) (.int .i64 ((rd_T46 l3 x43_2).f1.f0))) (fun _ hk => hk.2) (.int .i64 ((rd_T46 l3 x43_2).f1.f1))) (fun _ hk => hk.1))); (case aS => exact (bZ (by repeat (first | (with_reducible first | exact HB.out | apply bA | apply bN | apply b1 | refine bS ?_ GE143.out | refine bS ?_ GE151.out) | exact HB.out)))); (case aL => have := LMc33.out; omega); intro v154 w37 ho hb hg hat; rw [← Ny153.out] at ho; have n0_ := Aside0.mk (blk_grown (g := gb143) (o := .cells #[.int .i64 a2_0, .int .i64 a2_1] 24 (0, 0)) (by (with_reducible repeat (first | refine kN ?_ _ | refine kD ?_ | refine kA ?_ _)); refine kF ?_ NB143_151.out _; (with_reducible repeat (first | refine kN ?_ _ | refine kD ?_ | refine kA ?_ _)); refine kF ?_ NB143_151.out _; (with_reducible repeat (first | refine kN ?_ _ | refine kD ?_ | refine kA ?_ _)); refine kF ?_ NB143_151.out _; (with_reducible repeat (first | refine kN ?_ _ | refine kD ?_ | refine kA ?_ _)); exact BK143.out) hg (Kd.R_away HO_10.out (fun _ hk => hk))); have n1_ := Aside0.mk (blk_grown (g := gb151) (o := .cells #[.int .i64 ((rd_T46 l3 x43_2).f0), .int .i64 ((rd_T46 l3 x43_2).f1.f0), .int .i64 ((rd_T46 l3 x43_2).f1.f1)] 46 (0, 0)) (by (with_reducible repeat (first | refine kN ?_ _ | refine kD ?_ | refine kA ?_ _)); refine blk_put (cs := #[.int .i64 ((rd_T46 l3 x43_2).f0), .int .i64 ((rd_T46 l3 x43_2).f1.f0), .int .i64 0]) ?_ 2 _ rfl; (with_reducible repeat (first | refine kN ?_ _ | refine kD ?_ | refine kA ?_ _)); refine blk_put (cs := #[.int .i64 ((rd_T46 l3 x43_2).f0), .int .i64 0, .int .i64 0]) ?_ 1 _ rfl; (with_reducible repeat (first | refine kN ?_ _ | refine kD ?_ | refine kA ?_ _)); refine blk_put (cs := #[.int .i64 0, .int .i64 0, .int .i64 0]) ?_ 0 _ rfl; (with_reducible repeat (first | refine kN ?_ _ | refine kD ?_ | refine kA ?_ _)); exact BK151.out) hg (Kd.R_ne HO_10.out BK151.out (by decide))); have n2_ := Aside0.mk (hb); have n3_ := Aside0.mk (ho); clear BK143; clear BK151; clear HB; clear HO_10; have BK143 := n0_; have BK151 := n1_; have HB := n2_; have HO155 := n3_; clear n0_ n1_ n2_ n3_; clear ho hb hg hat))
           go_roundg k2
           case measure => have := HJ4.out; have := HK2.out; omega
           case rel => exact ⟨(y153), (wrap64 (x43_2 + 1)), (by first | rfl | (simp; done) | (simp [*]; done)), H', ⟨by have := HJ4.out; have := HK2.out; omega⟩, ⟨by (with_reducible repeat (first | apply Kd.R_alloc | apply Kd.R_drewN | apply Kd.R_drew)); exact HO155.out⟩, ⟨by (with_reducible repeat (first | refine kN ?_ _ | refine kD ?_ | refine kA ?_ _)); exact BK143.out⟩, ⟨by repeat (first | (with_reducible first | exact HB.out | apply bA | apply bN | apply b1 | refine bS ?_ GE143.out | refine bS ?_ GE151.out) | exact HB.out)⟩⟩
          ·rw [if_neg c33] at H
           exact absurd H (by simp)
         ·replace c32 := Bool.eq_false_iff.mpr c32
          subst c32
          have H1 : (some (0, 1)) = some (r1, r2) := by rw [if_neg (show ¬ (false = true) by decide)] at H; exact H
          clear H
          have H := H1
          clear H1
          simp only [Option.some.injEq, Prod.mk.injEq] at H
          obtain ⟨rfl, rfl⟩ := H
          have p150 : 0 ≤ (x43_2 : Int) := oT (by first | (with_reducible assumption) | assumption)
          have q150 : x43_2 < (l3.length : Int) := oT (by first | (with_reducible assumption) | assumption)
          obtain ⟨ad150, e150, hx150_0, hx150_1, hx150_2⟩ := at_T46 HR3.out x43_2 p150 q150
          cases e150
          replace hx150_0 := (HB.out.cell (World.block_lt_of_cell? w _ hx150_0)).trans hx150_0
          replace hx150_1 := (HB.out.cell (World.block_lt_of_cell? w _ hx150_1)).trans hx150_1
          replace hx150_2 := (HB.out.cell (World.block_lt_of_cell? w _ hx150_2)).trans hx150_2
          replace p150 := eq_true p150
          replace q150 := eq_true q150
          go_wp2_with (first | ((with_reducible refine gate_dst (N := 12) rfl ?_); (try (refine gate_guard (by rfl) ?_; dsimp only)); refine box_event ?hg (N := 12) ?hd (cs := #[.int .i64 0, .int .i64 0, .int .i64 0]) (t := 46) ?hr ?_; (case hd => rfl); (case hg => rfl); (case hr => first | (go_simp; done) | (go_simp; rfl)); intro gb151 hg w38 hbox hb; have n0_ := Aside0.mk (Kd.R_below (by (with_reducible repeat (first | apply Kd.R_alloc | apply Kd.R_drewN | apply Kd.R_drew)); exact HO_10.out) hb); have n1_ := Aside0.mk (kB (g := gb143) (o := .cells #[.int .i64 a2_0, .int .i64 a2_1] 24 (0, 0)) (by (with_reducible repeat (first | refine kN ?_ _ | refine kD ?_ | refine kA ?_ _)); exact BK143.out) hb); have n2_ := Aside0.mk (bT (by repeat (first | (with_reducible first | exact HB.out | apply bA | apply bN | apply b1 | refine bS ?_ GE143.out) | exact HB.out)) hb); have n3_ := Aside0.mk (hbox); have n4_ := Aside0.mk ((by rw [hg]; exact (bZ (by repeat (first | (with_reducible first | exact HB.out | apply bA | apply bN | apply b1 | refine bS ?_ GE143.out) | exact HB.out))) : w.heap.size ≤ gb151)); have n5_ := n4_; have n6_ := Aside0.mk ((by rw [hg]; exact Nat.ne_of_lt (blk_lt (g := gb143) (o := .cells #[.int .i64 a2_0, .int .i64 a2_1] 24 (0, 0)) (by (with_reducible repeat (first | refine kN ?_ _ | refine kD ?_ | refine kA ?_ _)); exact BK143.out)) : gb143 ≠ gb151)); have n7_ := Aside0.mk n6_.out.symm; clear HO_10; clear BK143; clear HB; have HO_10 := n0_; have BK143 := n1_; have HB := n2_; have BK151 := n3_; have GW151 := n4_; have GE151 := n5_; have NB143_151 := n6_; have NB151_143 := n7_; clear n0_ n1_ n2_ n3_ n4_ n5_ n6_ n7_; clear hb hbox hg; have hnb39 := NB151_143.out; have hnc39 := NB143_151.out; have hcz40_0 : w38.cell? ⟨gb151, 0, none⟩ = some (.int .i64 0) := (kC BK151.out 0).trans rfl; have hcz40_1 : w38.cell? ⟨gb151, 1, none⟩ = some (.int .i64 0) := (kC BK151.out 1).trans rfl; have hcz40_2 : w38.cell? ⟨gb151, 2, none⟩ = some (.int .i64 0) := (kC BK151.out 2).trans rfl; have hfz40_0 := blk_frozen BK151.out 0; have hfz40_1 := blk_frozen BK151.out 1; have hfz40_2 := blk_frozen BK151.out 2) | ((with_reducible refine gate_callee (f := 27) rfl ?_); refine goesL_ (some 49) rfl rfl Tryz.func27 (by kernel_rfl) rfl #[.int .i64 ((rd_T46 l3 x43_2).f0), .int .i64 1, .int .i64 2] rfl (by (try simp only [List.map_toArray, List.map_cons, List.map_nil]); first | done | rfl | (simp only [List.length_drop, List.length_take]; rfl)) ?_; (with_reducible refine (setoff_between.calls ((rd_T46 l3 x43_2).f0) 1 2 false _ A31.out).mono ?_); rintro e w' ⟨rfl, ⟨nd, rfl⟩⟩; refine ⟨_, rfl, ?_⟩))
          go_ret2
          exact ⟨by first | rfl | (simp [errW_none, errW_some] <;> rfl) | (simp [*, errW_none, errW_some] <;> rfl), by repeat (first | (with_reducible first | exact HB.out | apply bA | apply bN | apply b1 | refine bS ?_ GE143.out | refine bS ?_ GE151.out) | exact HB.out)⟩
        ·rw [if_neg c30] at H
         exact absurd H (by simp)
       ·rw [if_neg c29] at H
        exact absurd H (by simp)
      ·rw [if_neg c28] at H
       have c28b0 : decide (x43_2 < (l3.length : Int)) = false := dF c28
       clear c28
       replace H := Option.bind_eq_some_iff.mp H
       obtain ⟨⟨t156, t157⟩, A410, H⟩ := H
       replace H : (if t157 = 0 then ((span_Meet.f k2 (([(⟨a2_0, a2_1⟩ : S24)] : List (S24))) t156).bind fun bt163 => ((span_Count.f k2 bt163.1).bind fun bt167 => ((setoff_late.f l0 a2_0 (([3] : List Int))).bind fun bt172 => ((setoff_open.f k2 bt172.1).bind fun bt178 => (if bt178.2 = true then ((rational_Make.f (wrap64 (a1 * (wrap64 ((wrap64 (a2_1 - a2_0)) - bt167.1)))) 3650000).bind fun bt180 => ((money_Scale.f k2 bt178.1 bt180.1 bt180.2.1).bind fun bt184 => (some (bt184.1, bt184.2)))) else (some (0, 3))))))) else (some (0, 1))) = some (r1, r2) := H
       have A41 := Aside0.mk A410
       clear A410
       by_cases c42 : t157 = 0
       ·rw [if_pos c42] at H
        have c42b0 : (t157 == 0) = true := beq_iff_eq.mpr c42
        have c42b1 : (t157 != 0) = false := bne_eq_false_iff_eq.mpr c42
        clear c42
        obtain ⟨y160, hy160⟩ : ∃ y_ : List (S24), y_ = (([(⟨a2_0, a2_1⟩ : S24)] : List (S24))) := ⟨_, rfl⟩
        replace H : ((span_Meet.f k2 y160 t156).bind fun bt163 => ((span_Count.f k2 bt163.1).bind fun bt167 => ((setoff_late.f l0 a2_0 (([3] : List Int))).bind fun bt172 => ((setoff_open.f k2 bt172.1).bind fun bt178 => (if bt178.2 = true then ((rational_Make.f (wrap64 (a1 * (wrap64 ((wrap64 (a2_1 - a2_0)) - bt167.1)))) 3650000).bind fun bt180 => ((money_Scale.f k2 bt178.1 bt180.1 bt180.2.1).bind fun bt184 => (some (bt184.1, bt184.2)))) else (some (0, 3))))))) = some (r1, r2) := by first | (rw [hy160]; with_reducible exact H) | (have H2_ := (Option.bind_some _ _).symm.trans H; rw [hy160]; with_reducible exact H2_) | (have H2_ := (Option.bind_some _ _).symm.trans H; with_reducible exact H2_) | with_reducible exact H | (rw [hy160]; exact H) | exact H
        have Ny160 := Aside0.mk hy160
        clear hy160
        replace H := Option.bind_eq_some_iff.mp H
        obtain ⟨⟨t163, t164⟩, A430, H⟩ := H
        replace H : ((span_Count.f k2 t163).bind fun bt167 => ((setoff_late.f l0 a2_0 (([3] : List Int))).bind fun bt172 => ((setoff_open.f k2 bt172.1).bind fun bt178 => (if bt178.2 = true then ((rational_Make.f (wrap64 (a1 * (wrap64 ((wrap64 (a2_1 - a2_0)) - bt167.1)))) 3650000).bind fun bt180 => ((money_Scale.f k2 bt178.1 bt180.1 bt180.2.1).bind fun bt184 => (some (bt184.1, bt184.2)))) else (some (0, 3)))))) = some (r1, r2) := H
        have A43 := Aside0.mk A430
        clear A430
        replace H := Option.bind_eq_some_iff.mp H
        obtain ⟨⟨t167, t168⟩, A440, H⟩ := H
        replace H : ((setoff_late.f l0 a2_0 (([3] : List Int))).bind fun bt172 => ((setoff_open.f k2 bt172.1).bind fun bt178 => (if bt178.2 = true then ((rational_Make.f (wrap64 (a1 * (wrap64 ((wrap64 (a2_1 - a2_0)) - t167)))) 3650000).bind fun bt180 => ((money_Scale.f k2 bt178.1 bt180.1 bt180.2.1).bind fun bt184 => (some (bt184.1, bt184.2)))) else (some (0, 3))))) = some (r1, r2) := H
        have A44 := Aside0.mk A440
        clear A440
        obtain ⟨y169, hy169⟩ : ∃ y_ : List Int, y_ = (([3] : List Int)) := ⟨_, rfl⟩
        replace H : ((setoff_late.f l0 a2_0 y169).bind fun bt172 => ((setoff_open.f k2 bt172.1).bind fun bt178 => (if bt178.2 = true then ((rational_Make.f (wrap64 (a1 * (wrap64 ((wrap64 (a2_1 - a2_0)) - t167)))) 3650000).bind fun bt180 => ((money_Scale.f k2 bt178.1 bt180.1 bt180.2.1).bind fun bt184 => (some (bt184.1, bt184.2)))) else (some (0, 3))))) = some (r1, r2) := by first | (rw [hy169]; with_reducible exact H) | (have H2_ := (Option.bind_some _ _).symm.trans H; rw [hy169]; with_reducible exact H2_) | (have H2_ := (Option.bind_some _ _).symm.trans H; with_reducible exact H2_) | with_reducible exact H | (rw [hy169]; exact H) | exact H
        have Ny169 := Aside0.mk hy169
        clear hy169
        replace H := Option.bind_eq_some_iff.mp H
        obtain ⟨⟨t172, t173⟩, A450, H⟩ := H
        replace H : ((setoff_open.f k2 t172).bind fun bt178 => (if bt178.2 = true then ((rational_Make.f (wrap64 (a1 * (wrap64 ((wrap64 (a2_1 - a2_0)) - t167)))) 3650000).bind fun bt180 => ((money_Scale.f k2 bt178.1 bt180.1 bt180.2.1).bind fun bt184 => (some (bt184.1, bt184.2)))) else (some (0, 3)))) = some (r1, r2) := H
        have A45 := Aside0.mk A450
        clear A450
        replace H := Option.bind_eq_some_iff.mp H
        obtain ⟨⟨t178, t179⟩, A460, H⟩ := H
        replace H : (if t179 = true then ((rational_Make.f (wrap64 (a1 * (wrap64 ((wrap64 (a2_1 - a2_0)) - t167)))) 3650000).bind fun bt180 => ((money_Scale.f k2 t178 bt180.1 bt180.2.1).bind fun bt184 => (some (bt184.1, bt184.2)))) else (some (0, 3))) = some (r1, r2) := H
        have A46 := Aside0.mk A460
        clear A460
        by_cases c47 : t179 = true
        ·subst c47
         have H1 : ((rational_Make.f (wrap64 (a1 * (wrap64 ((wrap64 (a2_1 - a2_0)) - t167)))) 3650000).bind fun bt180 => ((money_Scale.f k2 t178 bt180.1 bt180.2.1).bind fun bt184 => (some (bt184.1, bt184.2)))) = some (r1, r2) := by rw [if_pos rfl] at H; exact H
         clear H
         have H := H1
         clear H1
         replace H := Option.bind_eq_some_iff.mp H
         obtain ⟨⟨t180, t181, t182⟩, A480, H⟩ := H
         replace H : ((money_Scale.f k2 t178 t180 t181).bind fun bt184 => (some (bt184.1, bt184.2))) = some (r1, r2) := H
         have A48 := Aside0.mk A480
         clear A480
         replace H := Option.bind_eq_some_iff.mp H
         obtain ⟨⟨t184, t185⟩, A490, H⟩ := H
         replace H : (some (t184, t185)) = some (r1, r2) := H
         have A49 := Aside0.mk A490
         clear A490
         simp only [Option.some.injEq, Prod.mk.injEq] at H
         obtain ⟨rfl, rfl⟩ := H
         obtain ⟨Ao50, co50, eo50⟩ := Kd.R_slice HO_10.out
         subst eo50
         go_wp2_with (first | ((with_reducible refine gate_callee (f := 38) rfl ?_); refine goesL_ (some 59) rfl rfl Tryz.func38 (by kernel_rfl) rfl #[.slice Ao50 x10_2.length co50] rfl (by (try simp only [List.map_toArray, List.map_cons, List.map_nil]); first | done | rfl | (simp only [List.length_drop, List.length_take]; rfl)) ?_; (with_reducible refine (span_Normal.calls _ _ x10_2 t156 t157 _ ?side1 ?side2 A41.out).mono ?_); (case side1 => repeat (first | exact (Kd.R_reads' HO_10.out).2.2 | (with_reducible refine Kd.C_alloc ?_ _) | (with_reducible refine Kd.C_drewN ?_ _) | (with_reducible refine Kd.C_drew ?_))); (case side2 => exact (Kd.R_reads' HO_10.out).2.1); rintro e w51 ⟨v158, rfl, ho0, hb⟩; refine ⟨_, rfl, ?_⟩; have n0_ := Aside0.mk (Kd.R_elder' (by (with_reducible repeat (first | apply Kd.R_alloc | apply Kd.R_drewN | apply Kd.R_drew)); exact HO_10.out) (Kd.R_base ho0) hb); have n1_ := Aside0.mk (Kd.R_lower (Kd.R_newB (Kd.R_new' ho0 (Kd.R_lt (by (with_reducible repeat (first | apply Kd.R_alloc | apply Kd.R_drewN | apply Kd.R_drew)); exact HO_10.out))) (g := gb143) (o := .cells #[.int .i64 a2_0, .int .i64 a2_1] 24 (0, 0)) (by (with_reducible repeat (first | refine kN ?_ _ | refine kD ?_ | refine kA ?_ _)); exact BK143.out)) (bZ (by repeat (first | (with_reducible first | exact HB.out | apply bA | apply bN | apply b1 | refine bS ?_ GE143.out) | exact HB.out)))); have n2_ := Aside0.mk (kB (g := gb143) (o := .cells #[.int .i64 a2_0, .int .i64 a2_1] 24 (0, 0)) (by (with_reducible repeat (first | refine kN ?_ _ | refine kD ?_ | refine kA ?_ _)); exact BK143.out) hb); have n3_ := Aside0.mk (bT (by repeat (first | (with_reducible first | exact HB.out | apply bA | apply bN | apply b1 | refine bS ?_ GE143.out) | exact HB.out)) hb); clear HO_10; clear BK143; clear HB; have HO_10 := n0_; have HO159 := n1_; have BK143 := n2_; have HB := n3_; clear n0_ n1_ n2_ n3_; (try clear hb); (try clear hb2); (try clear hk); (try clear hi); (try clear ho0); have hcz52_0 : w51.cell? ⟨gb143, 0, none⟩ = some (.int .i64 a2_0) := (kC BK143.out 0).trans rfl; have hcz52_1 : w51.cell? ⟨gb143, 1, none⟩ = some (.int .i64 a2_1) := (kC BK143.out 1).trans rfl; have hfz52_0 := blk_frozen BK143.out 0; have hfz52_1 := blk_frozen BK143.out 1) | ((with_reducible refine gate_dst (N := 66) rfl ?_); (try (refine gate_guard (by rfl) ?_; dsimp only)); refine Kd.R_lit k24 _ 24 ?hg (N := 66) ?hd (xs := ([(⟨a2_0, a2_1⟩ : S24)] : List (S24))) (inner := [.int .i64 a2_0, .int .i64 a2_1]) (ok := fun _ => True) (okp := fun _ => True) ?hr ?hp (fun _ hk => hk) trivial (Below.refl _ _) (Nat.le_refl _) (by simp) ?_; (case hd => rfl); (case hg => rfl); (case hr => first | (go_simp; done) | (go_simp; rfl)); (case hp => exact (Reps.c2 (show Kd.M k24 _ _ _ (⟨a2_0, a2_1⟩ : S24) [.int .i64 a2_0, .int .i64 a2_1] from (k24_mkM _ _ _ (⟨a2_0, a2_1⟩ : S24) )) (Reps.none _ _))); intro v161 w53 ho54 hb hg_ hnew_; clear hg_ hnew_; (first | rw [← Ny160.out] at ho54 | (simp only [Int.reduceToNat] at ho54; rw [← Ny160.out] at ho54)); have n0_ := Aside0.mk (Kd.R_elder' (by (with_reducible repeat (first | apply Kd.R_alloc | apply Kd.R_drewN | apply Kd.R_drew)); exact HO_10.out) (Kd.R_base ho54) hb); have n1_ := Aside0.mk (Kd.R_elder' (by (with_reducible repeat (first | apply Kd.R_alloc | apply Kd.R_drewN | apply Kd.R_drew)); exact HO159.out) (Kd.R_base ho54) hb); have n2_ := Aside0.mk (Kd.R_lower (Kd.R_newB (Kd.R_new' (Kd.R_new' ho54 (Kd.R_lt (by (with_reducible repeat (first | apply Kd.R_alloc | apply Kd.R_drewN | apply Kd.R_drew)); exact HO_10.out))) (Kd.R_lt (by (with_reducible repeat (first | apply Kd.R_alloc | apply Kd.R_drewN | apply Kd.R_drew)); exact HO159.out))) (g := gb143) (o := .cells #[.int .i64 a2_0, .int .i64 a2_1] 24 (0, 0)) (by (with_reducible repeat (first | refine kN ?_ _ | refine kD ?_ | refine kA ?_ _)); exact BK143.out)) (bZ (by repeat (first | (with_reducible first | exact HB.out | apply bA | apply bN | apply b1 | refine bS ?_ GE143.out) | exact HB.out)))); have n3_ := Aside0.mk (kB (g := gb143) (o := .cells #[.int .i64 a2_0, .int .i64 a2_1] 24 (0, 0)) (by (with_reducible repeat (first | refine kN ?_ _ | refine kD ?_ | refine kA ?_ _)); exact BK143.out) hb); have n4_ := Aside0.mk (bT (by repeat (first | (with_reducible first | exact HB.out | apply bA | apply bN | apply b1 | refine bS ?_ GE143.out) | exact HB.out)) hb); clear HO_10; clear HO159; clear BK143; clear HB; have HO_10 := n0_; have HO159 := n1_; have HO162 := n2_; have BK143 := n3_; have HB := n4_; clear n0_ n1_ n2_ n3_ n4_; clear hb ho54; obtain ⟨Ao55, co55, eo55⟩ := Kd.R_slice HO162.out; subst eo55; obtain ⟨Ao56, co56, eo56⟩ := Kd.R_slice HO159.out; subst eo56) | ((with_reducible refine gate_callee (f := 39) rfl ?_); refine goesL_ (some 68) rfl rfl Tryz.func39 (by kernel_rfl) rfl #[.slice Ao55 y160.length co55, .slice Ao56 t156.length co56] rfl (by (try simp only [List.map_toArray, List.map_cons, List.map_nil]); first | done | rfl | (simp only [List.length_drop, List.length_take]; rfl)) ?_; (with_reducible refine (span_Meet.calls k2 _ _ y160 _ _ t156 t163 t164 _ ?side1 ?side2 ?side3 ?side4 A43.out).mono ?_); (case side1 => repeat (first | exact (Kd.R_reads' HO162.out).2.2 | (with_reducible refine Kd.C_alloc ?_ _) | (with_reducible refine Kd.C_drewN ?_ _) | (with_reducible refine Kd.C_drew ?_))); (case side2 => exact (Kd.R_reads' HO162.out).2.1); (case side3 => repeat (first | exact (Kd.R_reads' HO159.out).2.2 | (with_reducible refine Kd.C_alloc ?_ _) | (with_reducible refine Kd.C_drewN ?_ _) | (with_reducible refine Kd.C_drew ?_))); (case side4 => exact (Kd.R_reads' HO159.out).2.1); rintro e w57 ⟨v165, rfl, ho0, hb⟩; refine ⟨_, rfl, ?_⟩; have n0_ := Aside0.mk (Kd.R_elder' (by (with_reducible repeat (first | apply Kd.R_alloc | apply Kd.R_drewN | apply Kd.R_drew)); exact HO_10.out) (Kd.R_base ho0) hb); have n1_ := Aside0.mk (Kd.R_elder' (by (with_reducible repeat (first | apply Kd.R_alloc | apply Kd.R_drewN | apply Kd.R_drew)); exact HO159.out) (Kd.R_base ho0) hb); have n2_ := Aside0.mk (Kd.R_elder' (by (with_reducible repeat (first | apply Kd.R_alloc | apply Kd.R_drewN | apply Kd.R_drew)); exact HO162.out) (Kd.R_base ho0) hb); have n3_ := Aside0.mk (Kd.R_lower (Kd.R_newB (Kd.R_new' (Kd.R_new' (Kd.R_new' ho0 (Kd.R_lt (by (with_reducible repeat (first | apply Kd.R_alloc | apply Kd.R_drewN | apply Kd.R_drew)); exact HO_10.out))) (Kd.R_lt (by (with_reducible repeat (first | apply Kd.R_alloc | apply Kd.R_drewN | apply Kd.R_drew)); exact HO159.out))) (Kd.R_lt (by (with_reducible repeat (first | apply Kd.R_alloc | apply Kd.R_drewN | apply Kd.R_drew)); exact HO162.out))) (g := gb143) (o := .cells #[.int .i64 a2_0, .int .i64 a2_1] 24 (0, 0)) (by (with_reducible repeat (first | refine kN ?_ _ | refine kD ?_ | refine kA ?_ _)); exact BK143.out)) (bZ (by repeat (first | (with_reducible first | exact HB.out | apply bA | apply bN | apply b1 | refine bS ?_ GE143.out) | exact HB.out)))); have n4_ := Aside0.mk (kB (g := gb143) (o := .cells #[.int .i64 a2_0, .int .i64 a2_1] 24 (0, 0)) (by (with_reducible repeat (first | refine kN ?_ _ | refine kD ?_ | refine kA ?_ _)); exact BK143.out) hb); have n5_ := Aside0.mk (bT (by repeat (first | (with_reducible first | exact HB.out | apply bA | apply bN | apply b1 | refine bS ?_ GE143.out) | exact HB.out)) hb); clear HO_10; clear HO159; clear HO162; clear BK143; clear HB; have HO_10 := n0_; have HO159 := n1_; have HO162 := n2_; have HO166 := n3_; have BK143 := n4_; have HB := n5_; clear n0_ n1_ n2_ n3_ n4_ n5_; (try clear hb); (try clear hb2); (try clear hk); (try clear hi); (try clear ho0); obtain ⟨Ao58, co58, eo58⟩ := Kd.R_slice HO166.out; subst eo58) | ((with_reducible refine gate_callee (f := 40) rfl ?_); refine goesL_ (some 73) rfl rfl Tryz.func40 (by kernel_rfl) rfl #[.slice Ao58 t163.length co58] rfl (by (try simp only [List.map_toArray, List.map_cons, List.map_nil]); first | done | rfl | (simp only [List.length_drop, List.length_take]; rfl)) ?_; (with_reducible refine (span_Count.calls k2 _ _ t163 t167 t168 _ ?side1 ?side2 A44.out).mono ?_); (case side1 => repeat (first | exact (Kd.R_reads' HO166.out).2.2 | (with_reducible refine Kd.C_alloc ?_ _) | (with_reducible refine Kd.C_drewN ?_ _) | (with_reducible refine Kd.C_drew ?_))); (case side2 => exact (Kd.R_reads' HO166.out).2.1); rintro e w59 ⟨rfl, hb⟩; refine ⟨_, rfl, ?_⟩; have n0_ := Aside0.mk (Kd.R_below (by (with_reducible repeat (first | apply Kd.R_alloc | apply Kd.R_drewN | apply Kd.R_drew)); exact HO_10.out) hb); have n1_ := Aside0.mk (Kd.R_below (by (with_reducible repeat (first | apply Kd.R_alloc | apply Kd.R_drewN | apply Kd.R_drew)); exact HO159.out) hb); have n2_ := Aside0.mk (Kd.R_below (by (with_reducible repeat (first | apply Kd.R_alloc | apply Kd.R_drewN | apply Kd.R_drew)); exact HO162.out) hb); have n3_ := Aside0.mk (Kd.R_below (by (with_reducible repeat (first | apply Kd.R_alloc | apply Kd.R_drewN | apply Kd.R_drew)); exact HO166.out) hb); have n4_ := Aside0.mk (kB (g := gb143) (o := .cells #[.int .i64 a2_0, .int .i64 a2_1] 24 (0, 0)) (by (with_reducible repeat (first | refine kN ?_ _ | refine kD ?_ | refine kA ?_ _)); exact BK143.out) hb); have n5_ := Aside0.mk (bT (by repeat (first | (with_reducible first | exact HB.out | apply bA | apply bN | apply b1 | refine bS ?_ GE143.out) | exact HB.out)) hb); clear HO_10; clear HO159; clear HO162; clear HO166; clear BK143; clear HB; have HO_10 := n0_; have HO159 := n1_; have HO162 := n2_; have HO166 := n3_; have BK143 := n4_; have HB := n5_; clear n0_ n1_ n2_ n3_ n4_ n5_; (try clear hb); (try clear hb2); (try clear hk); (try clear hi); have hcz60_0 : w59.cell? ⟨gb143, 0, none⟩ = some (.int .i64 a2_0) := (kC BK143.out 0).trans rfl; have hcz60_1 : w59.cell? ⟨gb143, 1, none⟩ = some (.int .i64 a2_1) := (kC BK143.out 1).trans rfl; have hfz60_0 := blk_frozen BK143.out 0; have hfz60_1 := blk_frozen BK143.out 1) | ((with_reducible refine gate_dst (N := 80) rfl ?_); (try (refine gate_guard (by rfl) ?_; dsimp only)); refine Kd.R_lit (Kd.int .i64) _ 3 ?hg (N := 80) ?hd (xs := ([3] : List Int)) (inner := [.int .i64 3]) (ok := fun _ => True) (okp := fun _ => True) ?hr ?hp (fun _ hk => hk) trivial (Below.refl _ _) (Nat.le_refl _) (by simp) ?_; (case hd => rfl); (case hg => rfl); (case hr => first | (go_simp; done) | (go_simp; rfl)); (case hp => exact (Reps.one (show Kd.M (Kd.int .i64) _ _ _ 3 [.int .i64 3] from rfl) (Reps.none _ _))); intro v170 w61 ho62 hb hg_ hnew_; clear hg_ hnew_; (first | rw [← Ny169.out] at ho62 | (simp only [Int.reduceToNat] at ho62; rw [← Ny169.out] at ho62)); have n0_ := Aside0.mk (Kd.R_below (by (with_reducible repeat (first | apply Kd.R_alloc | apply Kd.R_drewN | apply Kd.R_drew)); exact HO_10.out) hb); have n1_ := Aside0.mk (Kd.R_below (by (with_reducible repeat (first | apply Kd.R_alloc | apply Kd.R_drewN | apply Kd.R_drew)); exact HO159.out) hb); have n2_ := Aside0.mk (Kd.R_below (by (with_reducible repeat (first | apply Kd.R_alloc | apply Kd.R_drewN | apply Kd.R_drew)); exact HO162.out) hb); have n3_ := Aside0.mk (Kd.R_below (by (with_reducible repeat (first | apply Kd.R_alloc | apply Kd.R_drewN | apply Kd.R_drew)); exact HO166.out) hb); have n4_ := Aside0.mk (Kd.R_lower ho62 (bZ (by repeat (first | (with_reducible first | exact HB.out | apply bA | apply bN | apply b1 | refine bS ?_ GE143.out) | exact HB.out)))); have n5_ := Aside0.mk (kB (g := gb143) (o := .cells #[.int .i64 a2_0, .int .i64 a2_1] 24 (0, 0)) (by (with_reducible repeat (first | refine kN ?_ _ | refine kD ?_ | refine kA ?_ _)); exact BK143.out) hb); have n6_ := Aside0.mk (bT (by repeat (first | (with_reducible first | exact HB.out | apply bA | apply bN | apply b1 | refine bS ?_ GE143.out) | exact HB.out)) hb); clear HO_10; clear HO159; clear HO162; clear HO166; clear BK143; clear HB; have HO_10 := n0_; have HO159 := n1_; have HO162 := n2_; have HO166 := n3_; have HO171 := n4_; have BK143 := n5_; have HB := n6_; clear n0_ n1_ n2_ n3_ n4_ n5_ n6_; clear hb ho62; obtain ⟨Ao63, co63, eo63⟩ := Kd.R_slice HO171.out; subst eo63) | ((with_reducible refine gate_callee (f := 34) rfl ?_); refine goesL_ (some 81) rfl rfl Tryz.func34 (by kernel_rfl) rfl #[.slice A0 l0.length c0, .int .i64 a2_0, .slice Ao63 y169.length co63] rfl (by (try simp only [List.map_toArray, List.map_cons, List.map_nil]); first | done | rfl | (simp only [List.length_drop, List.length_take]; rfl)) ?_; (with_reducible refine (setoff_late.calls _ _ l0 a2_0 _ _ y169 t172 t173 _ ?side1 ?side2 ?side3 ?side4 A45.out).mono ?_); (case side1 => repeat (first | exact (Kd.C_below HR0.out HB.out) | (with_reducible refine Kd.C_alloc ?_ _) | (with_reducible refine Kd.C_drewN ?_ _) | (with_reducible refine Kd.C_drew ?_))); (case side2 => exact HC0.out); (case side3 => repeat (first | exact (Kd.R_reads' HO171.out).2.2 | (with_reducible refine Kd.C_alloc ?_ _) | (with_reducible refine Kd.C_drewN ?_ _) | (with_reducible refine Kd.C_drew ?_))); (case side4 => exact (Kd.R_reads' HO171.out).2.1); rintro e w64 ⟨v174, v176, rfl, ho0, ho1, hb⟩; refine ⟨_, rfl, ?_⟩; have n0_ := Aside0.mk (Kd.R_below (by (with_reducible repeat (first | apply Kd.R_alloc | apply Kd.R_drewN | apply Kd.R_drew)); exact HO_10.out) hb); have n1_ := Aside0.mk (Kd.R_below (by (with_reducible repeat (first | apply Kd.R_alloc | apply Kd.R_drewN | apply Kd.R_drew)); exact HO159.out) hb); have n2_ := Aside0.mk (Kd.R_below (by (with_reducible repeat (first | apply Kd.R_alloc | apply Kd.R_drewN | apply Kd.R_drew)); exact HO162.out) hb); have n3_ := Aside0.mk (Kd.R_below (by (with_reducible repeat (first | apply Kd.R_alloc | apply Kd.R_drewN | apply Kd.R_drew)); exact HO166.out) hb); have n4_ := Aside0.mk (Kd.R_below (by (with_reducible repeat (first | apply Kd.R_alloc | apply Kd.R_drewN | apply Kd.R_drew)); exact HO171.out) hb); have n5_ := Aside0.mk (Kd.R_lower ho0 (bZ (by repeat (first | (with_reducible first | exact HB.out | apply bA | apply bN | apply b1 | refine bS ?_ GE143.out) | exact HB.out)))); have n6_ := Aside0.mk (Kd.R_lower ho1 (bZ (by repeat (first | (with_reducible first | exact HB.out | apply bA | apply bN | apply b1 | refine bS ?_ GE143.out) | exact HB.out)))); have n7_ := Aside0.mk (kB (g := gb143) (o := .cells #[.int .i64 a2_0, .int .i64 a2_1] 24 (0, 0)) (by (with_reducible repeat (first | refine kN ?_ _ | refine kD ?_ | refine kA ?_ _)); exact BK143.out) hb); have n8_ := Aside0.mk (bT (by repeat (first | (with_reducible first | exact HB.out | apply bA | apply bN | apply b1 | refine bS ?_ GE143.out) | exact HB.out)) hb); clear HO_10; clear HO159; clear HO162; clear HO166; clear HO171; clear BK143; clear HB; have HO_10 := n0_; have HO159 := n1_; have HO162 := n2_; have HO166 := n3_; have HO171 := n4_; have HO175 := n5_; have HO177 := n6_; have BK143 := n7_; have HB := n8_; clear n0_ n1_ n2_ n3_ n4_ n5_ n6_ n7_ n8_; (try clear hb); (try clear hb2); (try clear hk); (try clear hi); (try clear ho0); (try clear ho1); obtain ⟨Ao65, co65, eo65⟩ := Kd.R_slice HO175.out; subst eo65) | ((with_reducible refine gate_callee (f := 35) rfl ?_); refine goesL_ (some 86) rfl rfl Tryz.func35 (by kernel_rfl) rfl #[.slice Ao65 t172.length co65] rfl (by (try simp only [List.map_toArray, List.map_cons, List.map_nil]); first | done | rfl | (simp only [List.length_drop, List.length_take]; rfl)) ?_; (with_reducible refine (setoff_open.calls k2 _ _ t172 t178 true _ ?side1 ?side2 A46.out).mono ?_); (case side1 => repeat (first | exact (Kd.R_reads' HO175.out).2.2 | (with_reducible refine Kd.C_alloc ?_ _) | (with_reducible refine Kd.C_drewN ?_ _) | (with_reducible refine Kd.C_drew ?_))); (case side2 => exact (Kd.R_reads' HO175.out).2.1); rintro e w66 ⟨rfl, hb⟩; refine ⟨_, rfl, ?_⟩; have n0_ := Aside0.mk (Kd.R_below (by (with_reducible repeat (first | apply Kd.R_alloc | apply Kd.R_drewN | apply Kd.R_drew)); exact HO_10.out) hb); have n1_ := Aside0.mk (Kd.R_below (by (with_reducible repeat (first | apply Kd.R_alloc | apply Kd.R_drewN | apply Kd.R_drew)); exact HO159.out) hb); have n2_ := Aside0.mk (Kd.R_below (by (with_reducible repeat (first | apply Kd.R_alloc | apply Kd.R_drewN | apply Kd.R_drew)); exact HO162.out) hb); have n3_ := Aside0.mk (Kd.R_below (by (with_reducible repeat (first | apply Kd.R_alloc | apply Kd.R_drewN | apply Kd.R_drew)); exact HO166.out) hb); have n4_ := Aside0.mk (Kd.R_below (by (with_reducible repeat (first | apply Kd.R_alloc | apply Kd.R_drewN | apply Kd.R_drew)); exact HO171.out) hb); have n5_ := Aside0.mk (Kd.R_below (by (with_reducible repeat (first | apply Kd.R_alloc | apply Kd.R_drewN | apply Kd.R_drew)); exact HO175.out) hb); have n6_ := Aside0.mk (Kd.R_below (by (with_reducible repeat (first | apply Kd.R_alloc | apply Kd.R_drewN | apply Kd.R_drew)); exact HO177.out) hb); have n7_ := Aside0.mk (kB (g := gb143) (o := .cells #[.int .i64 a2_0, .int .i64 a2_1] 24 (0, 0)) (by (with_reducible repeat (first | refine kN ?_ _ | refine kD ?_ | refine kA ?_ _)); exact BK143.out) hb); have n8_ := Aside0.mk (bT (by repeat (first | (with_reducible first | exact HB.out | apply bA | apply bN | apply b1 | refine bS ?_ GE143.out) | exact HB.out)) hb); clear HO_10; clear HO159; clear HO162; clear HO166; clear HO171; clear HO175; clear HO177; clear BK143; clear HB; have HO_10 := n0_; have HO159 := n1_; have HO162 := n2_; have HO166 := n3_; have HO171 := n4_; have HO175 := n5_; have HO177 := n6_; have BK143 := n7_; have HB := n8_; clear n0_ n1_ n2_ n3_ n4_ n5_ n6_ n7_ n8_; (try clear hb); (try clear hb2); (try clear hk); (try clear hi); have hcz67_0 : w66.cell? ⟨gb143, 0, none⟩ = some (.int .i64 a2_0) := (kC BK143.out 0).trans rfl; have hcz67_1 : w66.cell? ⟨gb143, 1, none⟩ = some (.int .i64 a2_1) := (kC BK143.out 1).trans rfl; have hfz67_0 := blk_frozen BK143.out 0; have hfz67_1 := blk_frozen BK143.out 1) | ((with_reducible refine gate_callee (f := 41) rfl ?_); refine goesL_ (some 101) rfl rfl Tryz.func41 (by kernel_rfl) rfl #[.int .i64 (wrap64 (a1 * (wrap64 ((wrap64 (a2_1 - a2_0)) - t167)))), .int .i64 3650000] rfl (by (try simp only [List.map_toArray, List.map_cons, List.map_nil]); first | done | rfl | (simp only [List.length_drop, List.length_take]; rfl)) ?_; (with_reducible refine (rational_Make.calls (wrap64 (a1 * (wrap64 ((wrap64 (a2_1 - a2_0)) - t167)))) 3650000 t180 t181 t182 _ A48.out).mono ?_); rintro e w68 ⟨rfl, hb⟩; refine ⟨_, rfl, ?_⟩; have n0_ := Aside0.mk (Kd.R_below (by (with_reducible repeat (first | apply Kd.R_alloc | apply Kd.R_drewN | apply Kd.R_drew)); exact HO_10.out) hb); have n1_ := Aside0.mk (Kd.R_below (by (with_reducible repeat (first | apply Kd.R_alloc | apply Kd.R_drewN | apply Kd.R_drew)); exact HO159.out) hb); have n2_ := Aside0.mk (Kd.R_below (by (with_reducible repeat (first | apply Kd.R_alloc | apply Kd.R_drewN | apply Kd.R_drew)); exact HO162.out) hb); have n3_ := Aside0.mk (Kd.R_below (by (with_reducible repeat (first | apply Kd.R_alloc | apply Kd.R_drewN | apply Kd.R_drew)); exact HO166.out) hb); have n4_ := Aside0.mk (Kd.R_below (by (with_reducible repeat (first | apply Kd.R_alloc | apply Kd.R_drewN | apply Kd.R_drew)); exact HO171.out) hb); have n5_ := Aside0.mk (Kd.R_below (by (with_reducible repeat (first | apply Kd.R_alloc | apply Kd.R_drewN | apply Kd.R_drew)); exact HO175.out) hb); have n6_ := Aside0.mk (Kd.R_below (by (with_reducible repeat (first | apply Kd.R_alloc | apply Kd.R_drewN | apply Kd.R_drew)); exact HO177.out) hb); have n7_ := Aside0.mk (kB (g := gb143) (o := .cells #[.int .i64 a2_0, .int .i64 a2_1] 24 (0, 0)) (by (with_reducible repeat (first | refine kN ?_ _ | refine kD ?_ | refine kA ?_ _)); exact BK143.out) hb); have n8_ := Aside0.mk (bT (by repeat (first | (with_reducible first | exact HB.out | apply bA | apply bN | apply b1 | refine bS ?_ GE143.out) | exact HB.out)) hb); clear HO_10; clear HO159; clear HO162; clear HO166; clear HO171; clear HO175; clear HO177; clear BK143; clear HB; have HO_10 := n0_; have HO159 := n1_; have HO162 := n2_; have HO166 := n3_; have HO171 := n4_; have HO175 := n5_; have HO177 := n6_; have BK143 := n7_; have HB := n8_; clear n0_ n1_ n2_ n3_ n4_ n5_ n6_ n7_ n8_; (try clear hb); (try clear hb2); (try clear hk); (try clear hi)) | ((with_reducible refine gate_dst (N := 20) rfl ?_); (try (refine gate_guard (by rfl) ?_; dsimp only)); refine box_event ?hg (N := 20) ?hd (cs := #[.int .i64 0, .int .i64 0]) (t := 71) ?hr ?_; (case hd => rfl); (case hg => rfl); (case hr => first | (go_simp; done) | (go_simp; rfl)); intro gb183 hg w69 hbox hb; have n0_ := Aside0.mk (Kd.R_below (by (with_reducible repeat (first | apply Kd.R_alloc | apply Kd.R_drewN | apply Kd.R_drew)); exact HO_10.out) hb); have n1_ := Aside0.mk (Kd.R_below (by (with_reducible repeat (first | apply Kd.R_alloc | apply Kd.R_drewN | apply Kd.R_drew)); exact HO159.out) hb); have n2_ := Aside0.mk (Kd.R_below (by (with_reducible repeat (first | apply Kd.R_alloc | apply Kd.R_drewN | apply Kd.R_drew)); exact HO162.out) hb); have n3_ := Aside0.mk (Kd.R_below (by (with_reducible repeat (first | apply Kd.R_alloc | apply Kd.R_drewN | apply Kd.R_drew)); exact HO166.out) hb); have n4_ := Aside0.mk (Kd.R_below (by (with_reducible repeat (first | apply Kd.R_alloc | apply Kd.R_drewN | apply Kd.R_drew)); exact HO171.out) hb); have n5_ := Aside0.mk (Kd.R_below (by (with_reducible repeat (first | apply Kd.R_alloc | apply Kd.R_drewN | apply Kd.R_drew)); exact HO175.out) hb); have n6_ := Aside0.mk (Kd.R_below (by (with_reducible repeat (first | apply Kd.R_alloc | apply Kd.R_drewN | apply Kd.R_drew)); exact HO177.out) hb); have n7_ := Aside0.mk (kB (g := gb143) (o := .cells #[.int .i64 a2_0, .int .i64 a2_1] 24 (0, 0)) (by (with_reducible repeat (first | refine kN ?_ _ | refine kD ?_ | refine kA ?_ _)); exact BK143.out) hb); have n8_ := Aside0.mk (bT (by repeat (first | (with_reducible first | exact HB.out | apply bA | apply bN | apply b1 | refine bS ?_ GE143.out) | exact HB.out)) hb); have n9_ := Aside0.mk (hbox); have n10_ := Aside0.mk ((by rw [hg]; exact (bZ (by repeat (first | (with_reducible first | exact HB.out | apply bA | apply bN | apply b1 | refine bS ?_ GE143.out) | exact HB.out))) : w.heap.size ≤ gb183)); have n11_ := n10_; have n12_ := Aside0.mk ((by rw [hg]; exact Nat.ne_of_lt (blk_lt (g := gb143) (o := .cells #[.int .i64 a2_0, .int .i64 a2_1] 24 (0, 0)) (by (with_reducible repeat (first | refine kN ?_ _ | refine kD ?_ | refine kA ?_ _)); exact BK143.out)) : gb143 ≠ gb183)); have n13_ := Aside0.mk n12_.out.symm; clear HO_10; clear HO159; clear HO162; clear HO166; clear HO171; clear HO175; clear HO177; clear BK143; clear HB; have HO_10 := n0_; have HO159 := n1_; have HO162 := n2_; have HO166 := n3_; have HO171 := n4_; have HO175 := n5_; have HO177 := n6_; have BK143 := n7_; have HB := n8_; have BK183 := n9_; have GW183 := n10_; have GE183 := n11_; have NB143_183 := n12_; have NB183_143 := n13_; clear n0_ n1_ n2_ n3_ n4_ n5_ n6_ n7_ n8_ n9_ n10_ n11_ n12_ n13_; clear hb hbox hg; have hnb70 := NB183_143.out; have hnc70 := NB143_183.out; have hcz71_0 : w69.cell? ⟨gb183, 0, none⟩ = some (.int .i64 0) := (kC BK183.out 0).trans rfl; have hcz71_1 : w69.cell? ⟨gb183, 1, none⟩ = some (.int .i64 0) := (kC BK183.out 1).trans rfl; have hfz71_0 := blk_frozen BK183.out 0; have hfz71_1 := blk_frozen BK183.out 1) | ((with_reducible refine gate_callee (f := 42) rfl ?_); refine goesL_ (some 106) rfl rfl Tryz.func42 (by kernel_rfl) rfl #[.int .i64 t178, .agg #[.int .i64 t180, .int .i64 t181]] rfl (by (try simp only [List.map_toArray, List.map_cons, List.map_nil]); first | done | rfl | (simp only [List.length_drop, List.length_take]; rfl)) ?_; (with_reducible refine (money_Scale.calls k2 t178 t180 t181 t184 t185 _ A49.out).mono ?_); rintro e w72 ⟨rfl, hb⟩; refine ⟨_, rfl, ?_⟩; have n0_ := Aside0.mk (Kd.R_below (by (with_reducible repeat (first | apply Kd.R_alloc | apply Kd.R_drewN | apply Kd.R_drew)); exact (Kd.R_mono (Kd.R_far (p := ⟨gb183, 1, none⟩) (Kd.R_far (p := ⟨gb183, 0, none⟩) (Kd.R_types HO_10.out BK183.out (by decide)) (fun _ hk => hk.2) (.int .i64 t180)) (fun _ hk => hk.2) (.int .i64 t181)) (fun _ h_ => h_.1))) hb); have n1_ := Aside0.mk (Kd.R_below (by (with_reducible repeat (first | apply Kd.R_alloc | apply Kd.R_drewN | apply Kd.R_drew)); exact (Kd.R_mono (Kd.R_far (p := ⟨gb183, 1, none⟩) (Kd.R_far (p := ⟨gb183, 0, none⟩) (Kd.R_types HO159.out BK183.out (by decide)) (fun _ hk => hk.2) (.int .i64 t180)) (fun _ hk => hk.2) (.int .i64 t181)) (fun _ h_ => h_.1))) hb); have n2_ := Aside0.mk (Kd.R_below (by (with_reducible repeat (first | apply Kd.R_alloc | apply Kd.R_drewN | apply Kd.R_drew)); exact (Kd.R_mono (Kd.R_far (p := ⟨gb183, 1, none⟩) (Kd.R_far (p := ⟨gb183, 0, none⟩) (Kd.R_types HO162.out BK183.out (by decide)) (fun _ hk => hk.2) (.int .i64 t180)) (fun _ hk => hk.2) (.int .i64 t181)) (fun _ h_ => h_.1))) hb); have n3_ := Aside0.mk (Kd.R_below (by (with_reducible repeat (first | apply Kd.R_alloc | apply Kd.R_drewN | apply Kd.R_drew)); exact (Kd.R_mono (Kd.R_far (p := ⟨gb183, 1, none⟩) (Kd.R_far (p := ⟨gb183, 0, none⟩) (Kd.R_types HO166.out BK183.out (by decide)) (fun _ hk => hk.2) (.int .i64 t180)) (fun _ hk => hk.2) (.int .i64 t181)) (fun _ h_ => h_.1))) hb); have n4_ := Aside0.mk (Kd.R_below (by (with_reducible repeat (first | apply Kd.R_alloc | apply Kd.R_drewN | apply Kd.R_drew)); exact (Kd.R_mono (Kd.R_far (p := ⟨gb183, 1, none⟩) (Kd.R_far (p := ⟨gb183, 0, none⟩) (Kd.R_types HO171.out BK183.out (by decide)) (fun _ hk => hk.2) (.int .i64 t180)) (fun _ hk => hk.2) (.int .i64 t181)) (fun _ h_ => h_.1))) hb); have n5_ := Aside0.mk (Kd.R_below (by (with_reducible repeat (first | apply Kd.R_alloc | apply Kd.R_drewN | apply Kd.R_drew)); exact (Kd.R_mono (Kd.R_far (p := ⟨gb183, 1, none⟩) (Kd.R_far (p := ⟨gb183, 0, none⟩) (Kd.R_types HO175.out BK183.out (by decide)) (fun _ hk => hk.2) (.int .i64 t180)) (fun _ hk => hk.2) (.int .i64 t181)) (fun _ h_ => h_.1))) hb); have n6_ := Aside0.mk (Kd.R_below (by (with_reducible repeat (first | apply Kd.R_alloc | apply Kd.R_drewN | apply Kd.R_drew)); exact (Kd.R_mono (Kd.R_far (p := ⟨gb183, 1, none⟩) (Kd.R_far (p := ⟨gb183, 0, none⟩) (Kd.R_types HO177.out BK183.out (by decide)) (fun _ hk => hk.2) (.int .i64 t180)) (fun _ hk => hk.2) (.int .i64 t181)) (fun _ h_ => h_.1))) hb); have n7_ := Aside0.mk (kB (g := gb143) (o := .cells #[.int .i64 a2_0, .int .i64 a2_1] 24 (0, 0)) (by (with_reducible repeat (first | refine kN ?_ _ | refine kD ?_ | refine kA ?_ _)); refine kF ?_ NB143_183.out _; (with_reducible repeat (first | refine kN ?_ _ | refine kD ?_ | refine kA ?_ _)); refine kF ?_ NB143_183.out _; (with_reducible repeat (first | refine kN ?_ _ | refine kD ?_ | refine kA ?_ _)); exact BK143.out) hb); have n8_ := Aside0.mk (kB (g := gb183) (o := .cells #[.int .i64 t180, .int .i64 t181] 71 (0, 0)) (by (with_reducible repeat (first | refine kN ?_ _ | refine kD ?_ | refine kA ?_ _)); refine blk_put (cs := #[.int .i64 t180, .int .i64 0]) ?_ 1 _ rfl; (with_reducible repeat (first | refine kN ?_ _ | refine kD ?_ | refine kA ?_ _)); refine blk_put (cs := #[.int .i64 0, .int .i64 0]) ?_ 0 _ rfl; (with_reducible repeat (first | refine kN ?_ _ | refine kD ?_ | refine kA ?_ _)); exact BK183.out) hb); have n9_ := Aside0.mk (bT (by repeat (first | (with_reducible first | exact HB.out | apply bA | apply bN | apply b1 | refine bS ?_ GE143.out | refine bS ?_ GE183.out) | exact HB.out)) hb); clear HO_10; clear HO159; clear HO162; clear HO166; clear HO171; clear HO175; clear HO177; clear BK143; clear BK183; clear HB; have HO_10 := n0_; have HO159 := n1_; have HO162 := n2_; have HO166 := n3_; have HO171 := n4_; have HO175 := n5_; have HO177 := n6_; have BK143 := n7_; have BK183 := n8_; have HB := n9_; clear n0_ n1_ n2_ n3_ n4_ n5_ n6_ n7_ n8_ n9_; (try clear hb); (try clear hb2); (try clear hk); (try clear hi)))
         go_ret2
         exact ⟨by first | rfl | (simp [errW_none, errW_some] <;> rfl) | (simp [*, errW_none, errW_some] <;> rfl), by repeat (first | (with_reducible first | exact HB.out | apply bA | apply bN | apply b1 | refine bS ?_ GE143.out | refine bS ?_ GE183.out) | exact HB.out)⟩
        ·replace c47 := Bool.eq_false_iff.mpr c47
         subst c47
         have H1 : (some (0, 3)) = some (r1, r2) := by rw [if_neg (show ¬ (false = true) by decide)] at H; exact H
         clear H
         have H := H1
         clear H1
         simp only [Option.some.injEq, Prod.mk.injEq] at H
         obtain ⟨rfl, rfl⟩ := H
         obtain ⟨Ao73, co73, eo73⟩ := Kd.R_slice HO_10.out
         subst eo73
         go_wp2_with (first | ((with_reducible refine gate_callee (f := 38) rfl ?_); refine goesL_ (some 59) rfl rfl Tryz.func38 (by kernel_rfl) rfl #[.slice Ao73 x10_2.length co73] rfl (by (try simp only [List.map_toArray, List.map_cons, List.map_nil]); first | done | rfl | (simp only [List.length_drop, List.length_take]; rfl)) ?_; (with_reducible refine (span_Normal.calls _ _ x10_2 t156 t157 _ ?side1 ?side2 A41.out).mono ?_); (case side1 => repeat (first | exact (Kd.R_reads' HO_10.out).2.2 | (with_reducible refine Kd.C_alloc ?_ _) | (with_reducible refine Kd.C_drewN ?_ _) | (with_reducible refine Kd.C_drew ?_))); (case side2 => exact (Kd.R_reads' HO_10.out).2.1); rintro e w74 ⟨v158, rfl, ho0, hb⟩; refine ⟨_, rfl, ?_⟩; have n0_ := Aside0.mk (Kd.R_elder' (by (with_reducible repeat (first | apply Kd.R_alloc | apply Kd.R_drewN | apply Kd.R_drew)); exact HO_10.out) (Kd.R_base ho0) hb); have n1_ := Aside0.mk (Kd.R_lower (Kd.R_newB (Kd.R_new' ho0 (Kd.R_lt (by (with_reducible repeat (first | apply Kd.R_alloc | apply Kd.R_drewN | apply Kd.R_drew)); exact HO_10.out))) (g := gb143) (o := .cells #[.int .i64 a2_0, .int .i64 a2_1] 24 (0, 0)) (by (with_reducible repeat (first | refine kN ?_ _ | refine kD ?_ | refine kA ?_ _)); exact BK143.out)) (bZ (by repeat (first | (with_reducible first | exact HB.out | apply bA | apply bN | apply b1 | refine bS ?_ GE143.out) | exact HB.out)))); have n2_ := Aside0.mk (kB (g := gb143) (o := .cells #[.int .i64 a2_0, .int .i64 a2_1] 24 (0, 0)) (by (with_reducible repeat (first | refine kN ?_ _ | refine kD ?_ | refine kA ?_ _)); exact BK143.out) hb); have n3_ := Aside0.mk (bT (by repeat (first | (with_reducible first | exact HB.out | apply bA | apply bN | apply b1 | refine bS ?_ GE143.out) | exact HB.out)) hb); clear HO_10; clear BK143; clear HB; have HO_10 := n0_; have HO159 := n1_; have BK143 := n2_; have HB := n3_; clear n0_ n1_ n2_ n3_; (try clear hb); (try clear hb2); (try clear hk); (try clear hi); (try clear ho0); have hcz75_0 : w74.cell? ⟨gb143, 0, none⟩ = some (.int .i64 a2_0) := (kC BK143.out 0).trans rfl; have hcz75_1 : w74.cell? ⟨gb143, 1, none⟩ = some (.int .i64 a2_1) := (kC BK143.out 1).trans rfl; have hfz75_0 := blk_frozen BK143.out 0; have hfz75_1 := blk_frozen BK143.out 1) | ((with_reducible refine gate_dst (N := 66) rfl ?_); (try (refine gate_guard (by rfl) ?_; dsimp only)); refine Kd.R_lit k24 _ 24 ?hg (N := 66) ?hd (xs := ([(⟨a2_0, a2_1⟩ : S24)] : List (S24))) (inner := [.int .i64 a2_0, .int .i64 a2_1]) (ok := fun _ => True) (okp := fun _ => True) ?hr ?hp (fun _ hk => hk) trivial (Below.refl _ _) (Nat.le_refl _) (by simp) ?_; (case hd => rfl); (case hg => rfl); (case hr => first | (go_simp; done) | (go_simp; rfl)); (case hp => exact (Reps.c2 (show Kd.M k24 _ _ _ (⟨a2_0, a2_1⟩ : S24) [.int .i64 a2_0, .int .i64 a2_1] from (k24_mkM _ _ _ (⟨a2_0, a2_1⟩ : S24) )) (Reps.none _ _))); intro v161 w76 ho77 hb hg_ hnew_; clear hg_ hnew_; (first | rw [← Ny160.out] at ho77 | (simp only [Int.reduceToNat] at ho77; rw [← Ny160.out] at ho77)); have n0_ := Aside0.mk (Kd.R_elder' (by (with_reducible repeat (first | apply Kd.R_alloc | apply Kd.R_drewN | apply Kd.R_drew)); exact HO_10.out) (Kd.R_base ho77) hb); have n1_ := Aside0.mk (Kd.R_elder' (by (with_reducible repeat (first | apply Kd.R_alloc | apply Kd.R_drewN | apply Kd.R_drew)); exact HO159.out) (Kd.R_base ho77) hb); have n2_ := Aside0.mk (Kd.R_lower (Kd.R_newB (Kd.R_new' (Kd.R_new' ho77 (Kd.R_lt (by (with_reducible repeat (first | apply Kd.R_alloc | apply Kd.R_drewN | apply Kd.R_drew)); exact HO_10.out))) (Kd.R_lt (by (with_reducible repeat (first | apply Kd.R_alloc | apply Kd.R_drewN | apply Kd.R_drew)); exact HO159.out))) (g := gb143) (o := .cells #[.int .i64 a2_0, .int .i64 a2_1] 24 (0, 0)) (by (with_reducible repeat (first | refine kN ?_ _ | refine kD ?_ | refine kA ?_ _)); exact BK143.out)) (bZ (by repeat (first | (with_reducible first | exact HB.out | apply bA | apply bN | apply b1 | refine bS ?_ GE143.out) | exact HB.out)))); have n3_ := Aside0.mk (kB (g := gb143) (o := .cells #[.int .i64 a2_0, .int .i64 a2_1] 24 (0, 0)) (by (with_reducible repeat (first | refine kN ?_ _ | refine kD ?_ | refine kA ?_ _)); exact BK143.out) hb); have n4_ := Aside0.mk (bT (by repeat (first | (with_reducible first | exact HB.out | apply bA | apply bN | apply b1 | refine bS ?_ GE143.out) | exact HB.out)) hb); clear HO_10; clear HO159; clear BK143; clear HB; have HO_10 := n0_; have HO159 := n1_; have HO162 := n2_; have BK143 := n3_; have HB := n4_; clear n0_ n1_ n2_ n3_ n4_; clear hb ho77; obtain ⟨Ao78, co78, eo78⟩ := Kd.R_slice HO162.out; subst eo78; obtain ⟨Ao79, co79, eo79⟩ := Kd.R_slice HO159.out; subst eo79) | ((with_reducible refine gate_callee (f := 39) rfl ?_); refine goesL_ (some 68) rfl rfl Tryz.func39 (by kernel_rfl) rfl #[.slice Ao78 y160.length co78, .slice Ao79 t156.length co79] rfl (by (try simp only [List.map_toArray, List.map_cons, List.map_nil]); first | done | rfl | (simp only [List.length_drop, List.length_take]; rfl)) ?_; (with_reducible refine (span_Meet.calls k2 _ _ y160 _ _ t156 t163 t164 _ ?side1 ?side2 ?side3 ?side4 A43.out).mono ?_); (case side1 => repeat (first | exact (Kd.R_reads' HO162.out).2.2 | (with_reducible refine Kd.C_alloc ?_ _) | (with_reducible refine Kd.C_drewN ?_ _) | (with_reducible refine Kd.C_drew ?_))); (case side2 => exact (Kd.R_reads' HO162.out).2.1); (case side3 => repeat (first | exact (Kd.R_reads' HO159.out).2.2 | (with_reducible refine Kd.C_alloc ?_ _) | (with_reducible refine Kd.C_drewN ?_ _) | (with_reducible refine Kd.C_drew ?_))); (case side4 => exact (Kd.R_reads' HO159.out).2.1); rintro e w80 ⟨v165, rfl, ho0, hb⟩; refine ⟨_, rfl, ?_⟩; have n0_ := Aside0.mk (Kd.R_elder' (by (with_reducible repeat (first | apply Kd.R_alloc | apply Kd.R_drewN | apply Kd.R_drew)); exact HO_10.out) (Kd.R_base ho0) hb); have n1_ := Aside0.mk (Kd.R_elder' (by (with_reducible repeat (first | apply Kd.R_alloc | apply Kd.R_drewN | apply Kd.R_drew)); exact HO159.out) (Kd.R_base ho0) hb); have n2_ := Aside0.mk (Kd.R_elder' (by (with_reducible repeat (first | apply Kd.R_alloc | apply Kd.R_drewN | apply Kd.R_drew)); exact HO162.out) (Kd.R_base ho0) hb); have n3_ := Aside0.mk (Kd.R_lower (Kd.R_newB (Kd.R_new' (Kd.R_new' (Kd.R_new' ho0 (Kd.R_lt (by (with_reducible repeat (first | apply Kd.R_alloc | apply Kd.R_drewN | apply Kd.R_drew)); exact HO_10.out))) (Kd.R_lt (by (with_reducible repeat (first | apply Kd.R_alloc | apply Kd.R_drewN | apply Kd.R_drew)); exact HO159.out))) (Kd.R_lt (by (with_reducible repeat (first | apply Kd.R_alloc | apply Kd.R_drewN | apply Kd.R_drew)); exact HO162.out))) (g := gb143) (o := .cells #[.int .i64 a2_0, .int .i64 a2_1] 24 (0, 0)) (by (with_reducible repeat (first | refine kN ?_ _ | refine kD ?_ | refine kA ?_ _)); exact BK143.out)) (bZ (by repeat (first | (with_reducible first | exact HB.out | apply bA | apply bN | apply b1 | refine bS ?_ GE143.out) | exact HB.out)))); have n4_ := Aside0.mk (kB (g := gb143) (o := .cells #[.int .i64 a2_0, .int .i64 a2_1] 24 (0, 0)) (by (with_reducible repeat (first | refine kN ?_ _ | refine kD ?_ | refine kA ?_ _)); exact BK143.out) hb); have n5_ := Aside0.mk (bT (by repeat (first | (with_reducible first | exact HB.out | apply bA | apply bN | apply b1 | refine bS ?_ GE143.out) | exact HB.out)) hb); clear HO_10; clear HO159; clear HO162; clear BK143; clear HB; have HO_10 := n0_; have HO159 := n1_; have HO162 := n2_; have HO166 := n3_; have BK143 := n4_; have HB := n5_; clear n0_ n1_ n2_ n3_ n4_ n5_; (try clear hb); (try clear hb2); (try clear hk); (try clear hi); (try clear ho0); obtain ⟨Ao81, co81, eo81⟩ := Kd.R_slice HO166.out; subst eo81) | ((with_reducible refine gate_callee (f := 40) rfl ?_); refine goesL_ (some 73) rfl rfl Tryz.func40 (by kernel_rfl) rfl #[.slice Ao81 t163.length co81] rfl (by (try simp only [List.map_toArray, List.map_cons, List.map_nil]); first | done | rfl | (simp only [List.length_drop, List.length_take]; rfl)) ?_; (with_reducible refine (span_Count.calls k2 _ _ t163 t167 t168 _ ?side1 ?side2 A44.out).mono ?_); (case side1 => repeat (first | exact (Kd.R_reads' HO166.out).2.2 | (with_reducible refine Kd.C_alloc ?_ _) | (with_reducible refine Kd.C_drewN ?_ _) | (with_reducible refine Kd.C_drew ?_))); (case side2 => exact (Kd.R_reads' HO166.out).2.1); rintro e w82 ⟨rfl, hb⟩; refine ⟨_, rfl, ?_⟩; have n0_ := Aside0.mk (Kd.R_below (by (with_reducible repeat (first | apply Kd.R_alloc | apply Kd.R_drewN | apply Kd.R_drew)); exact HO_10.out) hb); have n1_ := Aside0.mk (Kd.R_below (by (with_reducible repeat (first | apply Kd.R_alloc | apply Kd.R_drewN | apply Kd.R_drew)); exact HO159.out) hb); have n2_ := Aside0.mk (Kd.R_below (by (with_reducible repeat (first | apply Kd.R_alloc | apply Kd.R_drewN | apply Kd.R_drew)); exact HO162.out) hb); have n3_ := Aside0.mk (Kd.R_below (by (with_reducible repeat (first | apply Kd.R_alloc | apply Kd.R_drewN | apply Kd.R_drew)); exact HO166.out) hb); have n4_ := Aside0.mk (kB (g := gb143) (o := .cells #[.int .i64 a2_0, .int .i64 a2_1] 24 (0, 0)) (by (with_reducible repeat (first | refine kN ?_ _ | refine kD ?_ | refine kA ?_ _)); exact BK143.out) hb); have n5_ := Aside0.mk (bT (by repeat (first | (with_reducible first | exact HB.out | apply bA | apply bN | apply b1 | refine bS ?_ GE143.out) | exact HB.out)) hb); clear HO_10; clear HO159; clear HO162; clear HO166; clear BK143; clear HB; have HO_10 := n0_; have HO159 := n1_; have HO162 := n2_; have HO166 := n3_; have BK143 := n4_; have HB := n5_; clear n0_ n1_ n2_ n3_ n4_ n5_; (try clear hb); (try clear hb2); (try clear hk); (try clear hi); have hcz83_0 : w82.cell? ⟨gb143, 0, none⟩ = some (.int .i64 a2_0) := (kC BK143.out 0).trans rfl; have hcz83_1 : w82.cell? ⟨gb143, 1, none⟩ = some (.int .i64 a2_1) := (kC BK143.out 1).trans rfl; have hfz83_0 := blk_frozen BK143.out 0; have hfz83_1 := blk_frozen BK143.out 1) | ((with_reducible refine gate_dst (N := 80) rfl ?_); (try (refine gate_guard (by rfl) ?_; dsimp only)); refine Kd.R_lit (Kd.int .i64) _ 3 ?hg (N := 80) ?hd (xs := ([3] : List Int)) (inner := [.int .i64 3]) (ok := fun _ => True) (okp := fun _ => True) ?hr ?hp (fun _ hk => hk) trivial (Below.refl _ _) (Nat.le_refl _) (by simp) ?_; (case hd => rfl); (case hg => rfl); (case hr => first | (go_simp; done) | (go_simp; rfl)); (case hp => exact (Reps.one (show Kd.M (Kd.int .i64) _ _ _ 3 [.int .i64 3] from rfl) (Reps.none _ _))); intro v170 w84 ho85 hb hg_ hnew_; clear hg_ hnew_; (first | rw [← Ny169.out] at ho85 | (simp only [Int.reduceToNat] at ho85; rw [← Ny169.out] at ho85)); have n0_ := Aside0.mk (Kd.R_below (by (with_reducible repeat (first | apply Kd.R_alloc | apply Kd.R_drewN | apply Kd.R_drew)); exact HO_10.out) hb); have n1_ := Aside0.mk (Kd.R_below (by (with_reducible repeat (first | apply Kd.R_alloc | apply Kd.R_drewN | apply Kd.R_drew)); exact HO159.out) hb); have n2_ := Aside0.mk (Kd.R_below (by (with_reducible repeat (first | apply Kd.R_alloc | apply Kd.R_drewN | apply Kd.R_drew)); exact HO162.out) hb); have n3_ := Aside0.mk (Kd.R_below (by (with_reducible repeat (first | apply Kd.R_alloc | apply Kd.R_drewN | apply Kd.R_drew)); exact HO166.out) hb); have n4_ := Aside0.mk (Kd.R_lower ho85 (bZ (by repeat (first | (with_reducible first | exact HB.out | apply bA | apply bN | apply b1 | refine bS ?_ GE143.out) | exact HB.out)))); have n5_ := Aside0.mk (kB (g := gb143) (o := .cells #[.int .i64 a2_0, .int .i64 a2_1] 24 (0, 0)) (by (with_reducible repeat (first | refine kN ?_ _ | refine kD ?_ | refine kA ?_ _)); exact BK143.out) hb); have n6_ := Aside0.mk (bT (by repeat (first | (with_reducible first | exact HB.out | apply bA | apply bN | apply b1 | refine bS ?_ GE143.out) | exact HB.out)) hb); clear HO_10; clear HO159; clear HO162; clear HO166; clear BK143; clear HB; have HO_10 := n0_; have HO159 := n1_; have HO162 := n2_; have HO166 := n3_; have HO171 := n4_; have BK143 := n5_; have HB := n6_; clear n0_ n1_ n2_ n3_ n4_ n5_ n6_; clear hb ho85; obtain ⟨Ao86, co86, eo86⟩ := Kd.R_slice HO171.out; subst eo86) | ((with_reducible refine gate_callee (f := 34) rfl ?_); refine goesL_ (some 81) rfl rfl Tryz.func34 (by kernel_rfl) rfl #[.slice A0 l0.length c0, .int .i64 a2_0, .slice Ao86 y169.length co86] rfl (by (try simp only [List.map_toArray, List.map_cons, List.map_nil]); first | done | rfl | (simp only [List.length_drop, List.length_take]; rfl)) ?_; (with_reducible refine (setoff_late.calls _ _ l0 a2_0 _ _ y169 t172 t173 _ ?side1 ?side2 ?side3 ?side4 A45.out).mono ?_); (case side1 => repeat (first | exact (Kd.C_below HR0.out HB.out) | (with_reducible refine Kd.C_alloc ?_ _) | (with_reducible refine Kd.C_drewN ?_ _) | (with_reducible refine Kd.C_drew ?_))); (case side2 => exact HC0.out); (case side3 => repeat (first | exact (Kd.R_reads' HO171.out).2.2 | (with_reducible refine Kd.C_alloc ?_ _) | (with_reducible refine Kd.C_drewN ?_ _) | (with_reducible refine Kd.C_drew ?_))); (case side4 => exact (Kd.R_reads' HO171.out).2.1); rintro e w87 ⟨v174, v176, rfl, ho0, ho1, hb⟩; refine ⟨_, rfl, ?_⟩; have n0_ := Aside0.mk (Kd.R_below (by (with_reducible repeat (first | apply Kd.R_alloc | apply Kd.R_drewN | apply Kd.R_drew)); exact HO_10.out) hb); have n1_ := Aside0.mk (Kd.R_below (by (with_reducible repeat (first | apply Kd.R_alloc | apply Kd.R_drewN | apply Kd.R_drew)); exact HO159.out) hb); have n2_ := Aside0.mk (Kd.R_below (by (with_reducible repeat (first | apply Kd.R_alloc | apply Kd.R_drewN | apply Kd.R_drew)); exact HO162.out) hb); have n3_ := Aside0.mk (Kd.R_below (by (with_reducible repeat (first | apply Kd.R_alloc | apply Kd.R_drewN | apply Kd.R_drew)); exact HO166.out) hb); have n4_ := Aside0.mk (Kd.R_below (by (with_reducible repeat (first | apply Kd.R_alloc | apply Kd.R_drewN | apply Kd.R_drew)); exact HO171.out) hb); have n5_ := Aside0.mk (Kd.R_lower ho0 (bZ (by repeat (first | (with_reducible first | exact HB.out | apply bA | apply bN | apply b1 | refine bS ?_ GE143.out) | exact HB.out)))); have n6_ := Aside0.mk (Kd.R_lower ho1 (bZ (by repeat (first | (with_reducible first | exact HB.out | apply bA | apply bN | apply b1 | refine bS ?_ GE143.out) | exact HB.out)))); have n7_ := Aside0.mk (kB (g := gb143) (o := .cells #[.int .i64 a2_0, .int .i64 a2_1] 24 (0, 0)) (by (with_reducible repeat (first | refine kN ?_ _ | refine kD ?_ | refine kA ?_ _)); exact BK143.out) hb); have n8_ := Aside0.mk (bT (by repeat (first | (with_reducible first | exact HB.out | apply bA | apply bN | apply b1 | refine bS ?_ GE143.out) | exact HB.out)) hb); clear HO_10; clear HO159; clear HO162; clear HO166; clear HO171; clear BK143; clear HB; have HO_10 := n0_; have HO159 := n1_; have HO162 := n2_; have HO166 := n3_; have HO171 := n4_; have HO175 := n5_; have HO177 := n6_; have BK143 := n7_; have HB := n8_; clear n0_ n1_ n2_ n3_ n4_ n5_ n6_ n7_ n8_; (try clear hb); (try clear hb2); (try clear hk); (try clear hi); (try clear ho0); (try clear ho1); obtain ⟨Ao88, co88, eo88⟩ := Kd.R_slice HO175.out; subst eo88) | ((with_reducible refine gate_callee (f := 35) rfl ?_); refine goesL_ (some 86) rfl rfl Tryz.func35 (by kernel_rfl) rfl #[.slice Ao88 t172.length co88] rfl (by (try simp only [List.map_toArray, List.map_cons, List.map_nil]); first | done | rfl | (simp only [List.length_drop, List.length_take]; rfl)) ?_; (with_reducible refine (setoff_open.calls k2 _ _ t172 t178 false _ ?side1 ?side2 A46.out).mono ?_); (case side1 => repeat (first | exact (Kd.R_reads' HO175.out).2.2 | (with_reducible refine Kd.C_alloc ?_ _) | (with_reducible refine Kd.C_drewN ?_ _) | (with_reducible refine Kd.C_drew ?_))); (case side2 => exact (Kd.R_reads' HO175.out).2.1); rintro e w89 ⟨rfl, hb⟩; refine ⟨_, rfl, ?_⟩; have n0_ := Aside0.mk (Kd.R_below (by (with_reducible repeat (first | apply Kd.R_alloc | apply Kd.R_drewN | apply Kd.R_drew)); exact HO_10.out) hb); have n1_ := Aside0.mk (Kd.R_below (by (with_reducible repeat (first | apply Kd.R_alloc | apply Kd.R_drewN | apply Kd.R_drew)); exact HO159.out) hb); have n2_ := Aside0.mk (Kd.R_below (by (with_reducible repeat (first | apply Kd.R_alloc | apply Kd.R_drewN | apply Kd.R_drew)); exact HO162.out) hb); have n3_ := Aside0.mk (Kd.R_below (by (with_reducible repeat (first | apply Kd.R_alloc | apply Kd.R_drewN | apply Kd.R_drew)); exact HO166.out) hb); have n4_ := Aside0.mk (Kd.R_below (by (with_reducible repeat (first | apply Kd.R_alloc | apply Kd.R_drewN | apply Kd.R_drew)); exact HO171.out) hb); have n5_ := Aside0.mk (Kd.R_below (by (with_reducible repeat (first | apply Kd.R_alloc | apply Kd.R_drewN | apply Kd.R_drew)); exact HO175.out) hb); have n6_ := Aside0.mk (Kd.R_below (by (with_reducible repeat (first | apply Kd.R_alloc | apply Kd.R_drewN | apply Kd.R_drew)); exact HO177.out) hb); have n7_ := Aside0.mk (kB (g := gb143) (o := .cells #[.int .i64 a2_0, .int .i64 a2_1] 24 (0, 0)) (by (with_reducible repeat (first | refine kN ?_ _ | refine kD ?_ | refine kA ?_ _)); exact BK143.out) hb); have n8_ := Aside0.mk (bT (by repeat (first | (with_reducible first | exact HB.out | apply bA | apply bN | apply b1 | refine bS ?_ GE143.out) | exact HB.out)) hb); clear HO_10; clear HO159; clear HO162; clear HO166; clear HO171; clear HO175; clear HO177; clear BK143; clear HB; have HO_10 := n0_; have HO159 := n1_; have HO162 := n2_; have HO166 := n3_; have HO171 := n4_; have HO175 := n5_; have HO177 := n6_; have BK143 := n7_; have HB := n8_; clear n0_ n1_ n2_ n3_ n4_ n5_ n6_ n7_ n8_; (try clear hb); (try clear hb2); (try clear hk); (try clear hi)))
         go_ret2
         exact ⟨by first | rfl | (simp [errW_none, errW_some] <;> rfl) | (simp [*, errW_none, errW_some] <;> rfl), by repeat (first | (with_reducible first | exact HB.out | apply bA | apply bN | apply b1 | refine bS ?_ GE143.out) | exact HB.out)⟩
       ·rw [if_neg c42] at H
        have c42b0 : (t157 == 0) = false := beq_eq_false_iff_ne.mpr c42
        have c42b1 : (t157 != 0) = true := bne_iff_ne.mpr c42
        simp only [Option.some.injEq, Prod.mk.injEq] at H
        obtain ⟨rfl, rfl⟩ := H
        obtain ⟨Ao90, co90, eo90⟩ := Kd.R_slice HO_10.out
        subst eo90
        go_wp2_with (first | ((with_reducible refine gate_callee (f := 38) rfl ?_); refine goesL_ (some 59) rfl rfl Tryz.func38 (by kernel_rfl) rfl #[.slice Ao90 x10_2.length co90] rfl (by (try simp only [List.map_toArray, List.map_cons, List.map_nil]); first | done | rfl | (simp only [List.length_drop, List.length_take]; rfl)) ?_; (with_reducible refine (span_Normal.calls _ _ x10_2 t156 t157 _ ?side1 ?side2 A41.out).mono ?_); (case side1 => repeat (first | exact (Kd.R_reads' HO_10.out).2.2 | (with_reducible refine Kd.C_alloc ?_ _) | (with_reducible refine Kd.C_drewN ?_ _) | (with_reducible refine Kd.C_drew ?_))); (case side2 => exact (Kd.R_reads' HO_10.out).2.1); rintro e w91 ⟨v158, rfl, ho0, hb⟩; refine ⟨_, rfl, ?_⟩; have n0_ := Aside0.mk (Kd.R_elder' (by (with_reducible repeat (first | apply Kd.R_alloc | apply Kd.R_drewN | apply Kd.R_drew)); exact HO_10.out) (Kd.R_base ho0) hb); have n1_ := Aside0.mk (Kd.R_lower (Kd.R_newB (Kd.R_new' ho0 (Kd.R_lt (by (with_reducible repeat (first | apply Kd.R_alloc | apply Kd.R_drewN | apply Kd.R_drew)); exact HO_10.out))) (g := gb143) (o := .cells #[.int .i64 a2_0, .int .i64 a2_1] 24 (0, 0)) (by (with_reducible repeat (first | refine kN ?_ _ | refine kD ?_ | refine kA ?_ _)); exact BK143.out)) (bZ (by repeat (first | (with_reducible first | exact HB.out | apply bA | apply bN | apply b1 | refine bS ?_ GE143.out) | exact HB.out)))); have n2_ := Aside0.mk (kB (g := gb143) (o := .cells #[.int .i64 a2_0, .int .i64 a2_1] 24 (0, 0)) (by (with_reducible repeat (first | refine kN ?_ _ | refine kD ?_ | refine kA ?_ _)); exact BK143.out) hb); have n3_ := Aside0.mk (bT (by repeat (first | (with_reducible first | exact HB.out | apply bA | apply bN | apply b1 | refine bS ?_ GE143.out) | exact HB.out)) hb); clear HO_10; clear BK143; clear HB; have HO_10 := n0_; have HO159 := n1_; have BK143 := n2_; have HB := n3_; clear n0_ n1_ n2_ n3_; (try clear hb); (try clear hb2); (try clear hk); (try clear hi); (try clear ho0)))
        go_ret2
        exact ⟨by first | rfl | (simp [errW_none, errW_some] <;> rfl) | (simp [*, errW_none, errW_some] <;> rfl), by repeat (first | (with_reducible first | exact HB.out | apply bA | apply bN | apply b1 | refine bS ?_ GE143.out) | exact HB.out)⟩

/-! ### calendar_valid: function 82 -/
def calendar_valid.f (a0 : Int) : Option (Bool) := if 0 ≤ a0 then (some (decide (a0 ≤ 36524))) else (some false)
set_option maxHeartbeats 8000000 in
set_option maxRecDepth 100000 in
theorem calendar_valid.calls (a0 : Int) (r : Bool) (w : World) (h : calendar_valid.f a0 = some r) :
    Calls Tryz.prog 82 #[.int .i64 a0] w fun e w' => e = .returned (.bool r) ∧ Drawn0 w w' := by
  have H : (if 0 ≤ a0 then (some (decide (a0 ≤ 36524))) else (some false)) = some r := h
  clear h
  by_cases c2 : 0 ≤ a0
  · rw [if_pos c2] at H
    have c2b0 : decide (0 ≤ a0) = true := decide_eq_true c2
    clear c2
    obtain rfl := Option.some.inj H
    go_enter Tryz.func82, Tryz.ntmps82
    go_wp2
    go_ret
    exact ⟨by first | rfl | (simp; done) | (simp [*]; done), by repeat (first | exact Drawn0.refl _ | apply Drawn0.step)⟩
  · rw [if_neg c2] at H
    have c2b0 : decide (0 ≤ a0) = false := decide_eq_false c2
    clear c2
    obtain rfl := Option.some.inj H
    go_enter Tryz.func82, Tryz.ntmps82
    go_wp2
    go_ret
    exact ⟨by first | rfl | (simp; done) | (simp [*]; done), by repeat (first | exact Drawn0.refl _ | apply Drawn0.step)⟩

/-! ### calendar_length: function 83 -/
-- by hand: cohousing/calendar.length
section
/-- How long a month is: the table, and a day more in February of each fourth year. -/
def lensT : List Int := [31, 28, 31, 30, 31, 30, 31, 31, 30, 31, 30, 31]
def monthLen (y m : Int) : Int := if m = 1 ∧ y.tmod 4 = 0 then 29 else lensT.getD m.toNat 0
set_option maxHeartbeats 2000000 in
theorem len_m (a0 : Int) (m : Nat) (w : World) (hG : GL w) (hm : m < 12) :
    Calls Tryz.prog 83 #[.int .i64 a0, .int .i64 (m : Int)] w fun e w' => e = .returned (.int .i64 (monthLen a0 (m : Int))) ∧ Drawn0 w w' := by
  have hc := Lib.TabIs.cell hG.len (g := 0) (by kernel_rfl) m hm
  have he : ([31, 28, 31, 30, 31, 30, 31, 31, 30, 31, 30, 31] : List Int) = lensT := rfl
  have p0 : 0 ≤ (m : Int) := by omega
  have p1 : (m : Int) < 12 := by omega
  replace p0 := eq_true p0
  replace p1 := eq_true p1
  have pb : decide ((m : Int) < 12) = true := decide_eq_true (by omega)
  by_cases h1 : m = 1
  · subst h1
    have hc1 : w.cell? ⟨0, 1, none⟩ = some (.int .i64 28) := by simpa using hc
    clear hc p0 p1 pb he
    have hm1 : monthLen a0 ((1 : Nat) : Int) = if a0.tmod 4 = 0 then 29 else 28 := by unfold monthLen; simp [lensT]
    rw [hm1]
    by_cases h2 : a0.tmod 4 = 0
    · rw [if_pos h2]
      have b2 : (a0.tmod 4 == 0) = true := by rw [h2]; rfl
      clear h2 hm1
      go_enter Tryz.func83, Tryz.ntmps83
      go_wp2
      go_ret
      exact ⟨rfl, 0, rfl⟩
    · rw [if_neg h2]
      have b2 : (a0.tmod 4 == 0) = false := by simp [h2]
      clear h2 hm1
      go_enter Tryz.func83, Tryz.ntmps83
      go_wp2
      go_ret
      exact ⟨rfl, 0, rfl⟩
  · have hv : ∃ v : Int, w.cell? ⟨0, m, none⟩ = some (.int .i64 v) ∧ monthLen a0 (m : Int) = v := by
      refine ⟨_, by simpa using hc, ?_⟩
      unfold monthLen
      rw [if_neg (by omega)]
      simp [lensT]
    obtain ⟨v, hc1, hv1⟩ := hv
    rw [hv1]
    have b1 : ((m : Int) == 1) = false := by simp; omega
    have hne : ¬ ((m : Int) = 1) := by omega
    clear hc he hv1
    go_enter Tryz.func83, Tryz.ntmps83
    go_wp2
    go_ret
    exact ⟨rfl, 0, rfl⟩
def calendar_length.f (a0 a1 : Int) : Option Int := if 0 ≤ a1 ∧ a1 < 12 then some (monthLen a0 a1) else none
theorem calendar_length.calls (a0 a1 : Int) (r : Int) (w : World) (hG : GL w) (h : calendar_length.f a0 a1 = some r) :
    Calls Tryz.prog 83 #[.int .i64 a0, .int .i64 a1] w fun e w' => e = .returned (.int .i64 r) ∧ Drawn0 w w' := by
  unfold calendar_length.f at h
  split at h
  · rename_i hc
    obtain rfl := Option.some.inj h
    obtain ⟨m, rfl⟩ := Int.eq_ofNat_of_zero_le hc.1
    exact len_m a0 m w hG (by omega)
  · cases h
end

end Go.Proofs.YtnkgnjklkocojaaGreatDoor.X
