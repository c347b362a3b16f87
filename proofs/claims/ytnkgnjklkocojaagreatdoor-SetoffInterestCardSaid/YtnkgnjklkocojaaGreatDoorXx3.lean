-- Written by a program of mine (wip/tools/xprint.py) over the kit's print.py: printed functions and hand-proved ones side by side.
import Derived.Test.YtnkgnjklkocojaaGreatDoorXx0
import Derived.Test.YtnkgnjklkocojaaGreatDoorXx2
namespace Go.Proofs.YtnkgnjklkocojaaGreatDoor.X
open Go.RowKit Go.Proofs.YtnkgnjklkocojaaGreatDoorW.PrintWords Go.Proofs.YtnkgnjklkocojaaGreatDoorW.PrintLast Go.Proofs.YtnkgnjklkocojaaGreatDoorW.PrintMore
attribute [local go_sem] max2_int min2_int max_two min_two max_three min_three max_four min_four   -- for this text's walks alone
set_option linter.unusedVariables false
set_option linter.unusedSimpArgs false

/-! ### setoff_Pay: function 10 -/
-- by hand: cohousing/setoff.Pay
section
open Go.Sort (grow alloc_eq_grow grow_grow)
set_option maxHeartbeats 1000000 in
theorem dkey55 (x : S39) (W : World) : Calls Tryz.prog 55 #[.agg #[.int .i64 x.f0, .int .i64 x.f1, .int .i64 x.f2, .int .i64 x.f3]] W fun e w' => e = .returned (.int .i64 x.f1) ∧ Grew W w' := by
  go_enter Tryz.func55, Tryz.ntmps55
  go_wp2
  go_ret
  exact ⟨rfl, (Grew.refl _).alloc _⟩
set_option maxHeartbeats 1000000 in
theorem dkey56 (x : S39) (W : World) : Calls Tryz.prog 56 #[.agg #[.int .i64 x.f0, .int .i64 x.f1, .int .i64 x.f2, .int .i64 x.f3]] W fun e w' => e = .returned (.int .i64 x.f2) ∧ Grew W w' := by
  go_enter Tryz.func56, Tryz.ntmps56
  go_wp2
  go_ret
  exact ⟨rfl, (Grew.refl _).alloc _⟩
set_option maxHeartbeats 1000000 in
theorem dkey57 (x : S39) (W : World) : Calls Tryz.prog 57 #[.agg #[.int .i64 x.f0, .int .i64 x.f1, .int .i64 x.f2, .int .i64 x.f3]] W fun e w' => e = .returned (.int .i64 x.f0) ∧ Grew W w' := by
  go_enter Tryz.func57, Tryz.ntmps57
  go_wp2
  go_ret
  exact ⟨rfl, (Grew.refl _).alloc _⟩
/-- The comparison of debts: kind, day, number. -/
def cmpD (x y : S39) : Int := if Lib.compareInt x.f1 y.f1 = 0 then (if Lib.compareInt x.f2 y.f2 = 0 then Lib.compareInt x.f0 y.f0 else Lib.compareInt x.f2 y.f2) else Lib.compareInt x.f1 y.f1
set_option maxHeartbeats 16000000 in
set_option maxRecDepth 100000 in
theorem cmp_w0 (x y : S39) (W : World) (r0 r1 r2 : Int) (h0 : ∀ W', Calls Tryz.prog 58 #[.int .i64 x.f1, .int .i64 y.f1] W' fun e w' => e = .returned (.int .i64 r0) ∧ w' = W') (h1 : ∀ W', Calls Tryz.prog 58 #[.int .i64 x.f2, .int .i64 y.f2] W' fun e w' => e = .returned (.int .i64 r1) ∧ w' = W') (h2 : ∀ W', Calls Tryz.prog 58 #[.int .i64 x.f0, .int .i64 y.f0] W' fun e w' => e = .returned (.int .i64 r2) ∧ w' = W') (q0 : r0 ≠ 0) :
    Calls Tryz.prog 30 #[.agg #[.int .i64 x.f0, .int .i64 x.f1, .int .i64 x.f2, .int .i64 x.f3], .agg #[.int .i64 y.f0, .int .i64 y.f1, .int .i64 y.f2, .int .i64 y.f3]] W fun e w' => e = .returned (.int .i64 r0) ∧ Grew W w' := by
  have H0 := Lib.hid h0
  have H1 := Lib.hid h1
  have H2 := Lib.hid h2
  clear h0 h1 h2
  have b0 : (r0 == 0) = false := by simp [q0]
  have i0 : ∀ W, Sem.run Tryz.prog (Instr.index 91 (.agg #[.func (.func 55) #[] #[], .func (.func 56) #[] #[], .func (.func 57) #[] #[]]) (.int .i64 0)) W = .ok (.func (.func 55) #[] #[]) W := fun W => by kernel_rfl
  have i1 : ∀ W, Sem.run Tryz.prog (Instr.index 91 (.agg #[.func (.func 55) #[] #[], .func (.func 56) #[] #[], .func (.func 57) #[] #[]]) (.int .i64 1)) W = .ok (.func (.func 56) #[] #[]) W := fun W => by kernel_rfl
  have i2 : ∀ W, Sem.run Tryz.prog (Instr.index 91 (.agg #[.func (.func 55) #[] #[], .func (.func 56) #[] #[], .func (.func 57) #[] #[]]) (.int .i64 2)) W = .ok (.func (.func 57) #[] #[]) W := fun W => by kernel_rfl
  go_enter Tryz.func30, Tryz.ntmps30
  go_wp2_with fail
  obtain ⟨W2, hW2⟩ : ∃ w_ : World, w_ = (W.alloc (Obj.cells #[Value.int IntKind.i64 x.f0, Value.int IntKind.i64 x.f1, Value.int IntKind.i64 x.f2, Value.int IntKind.i64 x.f3] 39)).alloc (Obj.cells #[Value.int IntKind.i64 y.f0, Value.int IntKind.i64 y.f1, Value.int IntKind.i64 y.f2, Value.int IntKind.i64 y.f3] 39) := ⟨_, rfl⟩
  have hg0 : Grew W W2 := by rw [hW2]; exact ((Grew.refl _).alloc _).alloc _
  have c0 : W2.cell? ⟨W.heap.size, 0, none⟩ = some (.int .i64 x.f0) := by rw [hW2]; go_simp
  have c1 : W2.cell? ⟨W.heap.size, 1, none⟩ = some (.int .i64 x.f1) := by rw [hW2]; go_simp
  have c2 : W2.cell? ⟨W.heap.size, 2, none⟩ = some (.int .i64 x.f2) := by rw [hW2]; go_simp
  have c3 : W2.cell? ⟨W.heap.size, 3, none⟩ = some (.int .i64 x.f3) := by rw [hW2]; go_simp
  have c4 : W2.cell? ⟨W.heap.size + 1, 0, none⟩ = some (.int .i64 y.f0) := by rw [hW2]; go_simp
  have c5 : W2.cell? ⟨W.heap.size + 1, 1, none⟩ = some (.int .i64 y.f1) := by rw [hW2]; go_simp
  have c6 : W2.cell? ⟨W.heap.size + 1, 2, none⟩ = some (.int .i64 y.f2) := by rw [hW2]; go_simp
  have c7 : W2.cell? ⟨W.heap.size + 1, 3, none⟩ = some (.int .i64 y.f3) := by rw [hW2]; go_simp
  rw [← hW2]
  clear hW2
  generalize W.heap.size = b1 at *
  have hgw : Grew W2 W2 := Grew.refl _
  refine wp_loop_rounds 4 ?_
  rw [rounds_succ]
  go_wp2_with fail
  go_region_held3 (fun w' => w'.cell? ⟨b1, 0, none⟩ = some (.int .i64 x.f0) ∧ w'.cell? ⟨b1, 1, none⟩ = some (.int .i64 x.f1) ∧ w'.cell? ⟨b1, 2, none⟩ = some (.int .i64 x.f2) ∧ w'.cell? ⟨b1, 3, none⟩ = some (.int .i64 x.f3) ∧ w'.cell? ⟨b1 + 1, 0, none⟩ = some (.int .i64 y.f0) ∧ w'.cell? ⟨b1 + 1, 1, none⟩ = some (.int .i64 y.f1) ∧ w'.cell? ⟨b1 + 1, 2, none⟩ = some (.int .i64 y.f2) ∧ w'.cell? ⟨b1 + 1, 3, none⟩ = some (.int .i64 y.f3))
    (go_keep)
    (first
      | (go_at_call 55; refine (dkey55 _ _).mono ?_; rintro e w2 ⟨rfl, hg⟩; have hgw : Grew W2 w2 := Grew.trans (by first | exact hgw | exact hgw.drew | exact hgw.drewN _) hg; have d0 := hgw.cell c0; have d1 := hgw.cell c1; have d2 := hgw.cell c2; have d3 := hgw.cell c3; have d4 := hgw.cell c4; have d5 := hgw.cell c5; have d6 := hgw.cell c6; have d7 := hgw.cell c7)
      | (go_at_call 58; refine (H0.out _).mono ?_; rintro e w2 ⟨rfl, rfl⟩))
  all_goals (
    go_wp2_with fail
    go_ret
    exact ⟨by first | rfl | simp, hg0.trans (by first | exact hgw | exact hgw.drew | exact hgw.drewN _)⟩)
set_option maxHeartbeats 16000000 in
set_option maxRecDepth 100000 in
theorem cmp_w1 (x y : S39) (W : World) (r0 r1 r2 : Int) (h0 : ∀ W', Calls Tryz.prog 58 #[.int .i64 x.f1, .int .i64 y.f1] W' fun e w' => e = .returned (.int .i64 r0) ∧ w' = W') (h1 : ∀ W', Calls Tryz.prog 58 #[.int .i64 x.f2, .int .i64 y.f2] W' fun e w' => e = .returned (.int .i64 r1) ∧ w' = W') (h2 : ∀ W', Calls Tryz.prog 58 #[.int .i64 x.f0, .int .i64 y.f0] W' fun e w' => e = .returned (.int .i64 r2) ∧ w' = W') (q0 : r0 = 0) (q1 : r1 ≠ 0) :
    Calls Tryz.prog 30 #[.agg #[.int .i64 x.f0, .int .i64 x.f1, .int .i64 x.f2, .int .i64 x.f3], .agg #[.int .i64 y.f0, .int .i64 y.f1, .int .i64 y.f2, .int .i64 y.f3]] W fun e w' => e = .returned (.int .i64 r1) ∧ Grew W w' := by
  have H0 := Lib.hid h0
  have H1 := Lib.hid h1
  have H2 := Lib.hid h2
  clear h0 h1 h2
  subst q0
  have b1 : (r1 == 0) = false := by simp [q1]
  have i0 : ∀ W, Sem.run Tryz.prog (Instr.index 91 (.agg #[.func (.func 55) #[] #[], .func (.func 56) #[] #[], .func (.func 57) #[] #[]]) (.int .i64 0)) W = .ok (.func (.func 55) #[] #[]) W := fun W => by kernel_rfl
  have i1 : ∀ W, Sem.run Tryz.prog (Instr.index 91 (.agg #[.func (.func 55) #[] #[], .func (.func 56) #[] #[], .func (.func 57) #[] #[]]) (.int .i64 1)) W = .ok (.func (.func 56) #[] #[]) W := fun W => by kernel_rfl
  have i2 : ∀ W, Sem.run Tryz.prog (Instr.index 91 (.agg #[.func (.func 55) #[] #[], .func (.func 56) #[] #[], .func (.func 57) #[] #[]]) (.int .i64 2)) W = .ok (.func (.func 57) #[] #[]) W := fun W => by kernel_rfl
  go_enter Tryz.func30, Tryz.ntmps30
  go_wp2_with fail
  obtain ⟨W2, hW2⟩ : ∃ w_ : World, w_ = (W.alloc (Obj.cells #[Value.int IntKind.i64 x.f0, Value.int IntKind.i64 x.f1, Value.int IntKind.i64 x.f2, Value.int IntKind.i64 x.f3] 39)).alloc (Obj.cells #[Value.int IntKind.i64 y.f0, Value.int IntKind.i64 y.f1, Value.int IntKind.i64 y.f2, Value.int IntKind.i64 y.f3] 39) := ⟨_, rfl⟩
  have hg0 : Grew W W2 := by rw [hW2]; exact ((Grew.refl _).alloc _).alloc _
  have c0 : W2.cell? ⟨W.heap.size, 0, none⟩ = some (.int .i64 x.f0) := by rw [hW2]; go_simp
  have c1 : W2.cell? ⟨W.heap.size, 1, none⟩ = some (.int .i64 x.f1) := by rw [hW2]; go_simp
  have c2 : W2.cell? ⟨W.heap.size, 2, none⟩ = some (.int .i64 x.f2) := by rw [hW2]; go_simp
  have c3 : W2.cell? ⟨W.heap.size, 3, none⟩ = some (.int .i64 x.f3) := by rw [hW2]; go_simp
  have c4 : W2.cell? ⟨W.heap.size + 1, 0, none⟩ = some (.int .i64 y.f0) := by rw [hW2]; go_simp
  have c5 : W2.cell? ⟨W.heap.size + 1, 1, none⟩ = some (.int .i64 y.f1) := by rw [hW2]; go_simp
  have c6 : W2.cell? ⟨W.heap.size + 1, 2, none⟩ = some (.int .i64 y.f2) := by rw [hW2]; go_simp
  have c7 : W2.cell? ⟨W.heap.size + 1, 3, none⟩ = some (.int .i64 y.f3) := by rw [hW2]; go_simp
  rw [← hW2]
  clear hW2
  generalize W.heap.size = b1 at *
  have hgw : Grew W2 W2 := Grew.refl _
  refine wp_loop_rounds 4 ?_
  rw [rounds_succ]
  go_wp2_with fail
  go_region_held3 (fun w' => w'.cell? ⟨b1, 0, none⟩ = some (.int .i64 x.f0) ∧ w'.cell? ⟨b1, 1, none⟩ = some (.int .i64 x.f1) ∧ w'.cell? ⟨b1, 2, none⟩ = some (.int .i64 x.f2) ∧ w'.cell? ⟨b1, 3, none⟩ = some (.int .i64 x.f3) ∧ w'.cell? ⟨b1 + 1, 0, none⟩ = some (.int .i64 y.f0) ∧ w'.cell? ⟨b1 + 1, 1, none⟩ = some (.int .i64 y.f1) ∧ w'.cell? ⟨b1 + 1, 2, none⟩ = some (.int .i64 y.f2) ∧ w'.cell? ⟨b1 + 1, 3, none⟩ = some (.int .i64 y.f3))
    (go_keep)
    (first
      | (go_at_call 55; refine (dkey55 _ _).mono ?_; rintro e w2 ⟨rfl, hg⟩; have hgw : Grew W2 w2 := Grew.trans (by first | exact hgw | exact hgw.drew | exact hgw.drewN _) hg; have d0 := hgw.cell c0; have d1 := hgw.cell c1; have d2 := hgw.cell c2; have d3 := hgw.cell c3; have d4 := hgw.cell c4; have d5 := hgw.cell c5; have d6 := hgw.cell c6; have d7 := hgw.cell c7)
      | (go_at_call 58; refine (H0.out _).mono ?_; rintro e w2 ⟨rfl, rfl⟩))
  all_goals (
    go_wp2_with fail
    rw [rounds_succ]
    go_wp2_with fail
    go_region_held3 (fun w' => w'.cell? ⟨b1, 0, none⟩ = some (.int .i64 x.f0) ∧ w'.cell? ⟨b1, 1, none⟩ = some (.int .i64 x.f1) ∧ w'.cell? ⟨b1, 2, none⟩ = some (.int .i64 x.f2) ∧ w'.cell? ⟨b1, 3, none⟩ = some (.int .i64 x.f3) ∧ w'.cell? ⟨b1 + 1, 0, none⟩ = some (.int .i64 y.f0) ∧ w'.cell? ⟨b1 + 1, 1, none⟩ = some (.int .i64 y.f1) ∧ w'.cell? ⟨b1 + 1, 2, none⟩ = some (.int .i64 y.f2) ∧ w'.cell? ⟨b1 + 1, 3, none⟩ = some (.int .i64 y.f3))
      (go_keep)
      (first
        | (go_at_call 56; refine (dkey56 _ _).mono ?_; rintro e w2 ⟨rfl, hg⟩; have hgw : Grew W2 w2 := Grew.trans (by first | exact hgw | exact hgw.drew | exact hgw.drewN _) hg; have d0 := hgw.cell c0; have d1 := hgw.cell c1; have d2 := hgw.cell c2; have d3 := hgw.cell c3; have d4 := hgw.cell c4; have d5 := hgw.cell c5; have d6 := hgw.cell c6; have d7 := hgw.cell c7)
        | (go_at_call 58; refine (H1.out _).mono ?_; rintro e w2 ⟨rfl, rfl⟩))
    all_goals (
      go_wp2_with fail
      go_ret
      exact ⟨by first | rfl | simp, hg0.trans (by first | exact hgw | exact hgw.drew | exact hgw.drewN _)⟩))
set_option maxHeartbeats 16000000 in
set_option maxRecDepth 100000 in
theorem cmp_w2 (x y : S39) (W : World) (r0 r1 r2 : Int) (h0 : ∀ W', Calls Tryz.prog 58 #[.int .i64 x.f1, .int .i64 y.f1] W' fun e w' => e = .returned (.int .i64 r0) ∧ w' = W') (h1 : ∀ W', Calls Tryz.prog 58 #[.int .i64 x.f2, .int .i64 y.f2] W' fun e w' => e = .returned (.int .i64 r1) ∧ w' = W') (h2 : ∀ W', Calls Tryz.prog 58 #[.int .i64 x.f0, .int .i64 y.f0] W' fun e w' => e = .returned (.int .i64 r2) ∧ w' = W') (q0 : r0 = 0) (q1 : r1 = 0) (q2 : r2 ≠ 0) :
    Calls Tryz.prog 30 #[.agg #[.int .i64 x.f0, .int .i64 x.f1, .int .i64 x.f2, .int .i64 x.f3], .agg #[.int .i64 y.f0, .int .i64 y.f1, .int .i64 y.f2, .int .i64 y.f3]] W fun e w' => e = .returned (.int .i64 r2) ∧ Grew W w' := by
  have H0 := Lib.hid h0
  have H1 := Lib.hid h1
  have H2 := Lib.hid h2
  clear h0 h1 h2
  subst q0
  subst q1
  have b2 : (r2 == 0) = false := by simp [q2]
  have i0 : ∀ W, Sem.run Tryz.prog (Instr.index 91 (.agg #[.func (.func 55) #[] #[], .func (.func 56) #[] #[], .func (.func 57) #[] #[]]) (.int .i64 0)) W = .ok (.func (.func 55) #[] #[]) W := fun W => by kernel_rfl
  have i1 : ∀ W, Sem.run Tryz.prog (Instr.index 91 (.agg #[.func (.func 55) #[] #[], .func (.func 56) #[] #[], .func (.func 57) #[] #[]]) (.int .i64 1)) W = .ok (.func (.func 56) #[] #[]) W := fun W => by kernel_rfl
  have i2 : ∀ W, Sem.run Tryz.prog (Instr.index 91 (.agg #[.func (.func 55) #[] #[], .func (.func 56) #[] #[], .func (.func 57) #[] #[]]) (.int .i64 2)) W = .ok (.func (.func 57) #[] #[]) W := fun W => by kernel_rfl
  go_enter Tryz.func30, Tryz.ntmps30
  go_wp2_with fail
  obtain ⟨W2, hW2⟩ : ∃ w_ : World, w_ = (W.alloc (Obj.cells #[Value.int IntKind.i64 x.f0, Value.int IntKind.i64 x.f1, Value.int IntKind.i64 x.f2, Value.int IntKind.i64 x.f3] 39)).alloc (Obj.cells #[Value.int IntKind.i64 y.f0, Value.int IntKind.i64 y.f1, Value.int IntKind.i64 y.f2, Value.int IntKind.i64 y.f3] 39) := ⟨_, rfl⟩
  have hg0 : Grew W W2 := by rw [hW2]; exact ((Grew.refl _).alloc _).alloc _
  have c0 : W2.cell? ⟨W.heap.size, 0, none⟩ = some (.int .i64 x.f0) := by rw [hW2]; go_simp
  have c1 : W2.cell? ⟨W.heap.size, 1, none⟩ = some (.int .i64 x.f1) := by rw [hW2]; go_simp
  have c2 : W2.cell? ⟨W.heap.size, 2, none⟩ = some (.int .i64 x.f2) := by rw [hW2]; go_simp
  have c3 : W2.cell? ⟨W.heap.size, 3, none⟩ = some (.int .i64 x.f3) := by rw [hW2]; go_simp
  have c4 : W2.cell? ⟨W.heap.size + 1, 0, none⟩ = some (.int .i64 y.f0) := by rw [hW2]; go_simp
  have c5 : W2.cell? ⟨W.heap.size + 1, 1, none⟩ = some (.int .i64 y.f1) := by rw [hW2]; go_simp
  have c6 : W2.cell? ⟨W.heap.size + 1, 2, none⟩ = some (.int .i64 y.f2) := by rw [hW2]; go_simp
  have c7 : W2.cell? ⟨W.heap.size + 1, 3, none⟩ = some (.int .i64 y.f3) := by rw [hW2]; go_simp
  rw [← hW2]
  clear hW2
  generalize W.heap.size = b1 at *
  have hgw : Grew W2 W2 := Grew.refl _
  refine wp_loop_rounds 4 ?_
  rw [rounds_succ]
  go_wp2_with fail
  go_region_held3 (fun w' => w'.cell? ⟨b1, 0, none⟩ = some (.int .i64 x.f0) ∧ w'.cell? ⟨b1, 1, none⟩ = some (.int .i64 x.f1) ∧ w'.cell? ⟨b1, 2, none⟩ = some (.int .i64 x.f2) ∧ w'.cell? ⟨b1, 3, none⟩ = some (.int .i64 x.f3) ∧ w'.cell? ⟨b1 + 1, 0, none⟩ = some (.int .i64 y.f0) ∧ w'.cell? ⟨b1 + 1, 1, none⟩ = some (.int .i64 y.f1) ∧ w'.cell? ⟨b1 + 1, 2, none⟩ = some (.int .i64 y.f2) ∧ w'.cell? ⟨b1 + 1, 3, none⟩ = some (.int .i64 y.f3))
    (go_keep)
    (first
      | (go_at_call 55; refine (dkey55 _ _).mono ?_; rintro e w2 ⟨rfl, hg⟩; have hgw : Grew W2 w2 := Grew.trans (by first | exact hgw | exact hgw.drew | exact hgw.drewN _) hg; have d0 := hgw.cell c0; have d1 := hgw.cell c1; have d2 := hgw.cell c2; have d3 := hgw.cell c3; have d4 := hgw.cell c4; have d5 := hgw.cell c5; have d6 := hgw.cell c6; have d7 := hgw.cell c7)
      | (go_at_call 58; refine (H0.out _).mono ?_; rintro e w2 ⟨rfl, rfl⟩))
  all_goals (
    go_wp2_with fail
    rw [rounds_succ]
    go_wp2_with fail
    go_region_held3 (fun w' => w'.cell? ⟨b1, 0, none⟩ = some (.int .i64 x.f0) ∧ w'.cell? ⟨b1, 1, none⟩ = some (.int .i64 x.f1) ∧ w'.cell? ⟨b1, 2, none⟩ = some (.int .i64 x.f2) ∧ w'.cell? ⟨b1, 3, none⟩ = some (.int .i64 x.f3) ∧ w'.cell? ⟨b1 + 1, 0, none⟩ = some (.int .i64 y.f0) ∧ w'.cell? ⟨b1 + 1, 1, none⟩ = some (.int .i64 y.f1) ∧ w'.cell? ⟨b1 + 1, 2, none⟩ = some (.int .i64 y.f2) ∧ w'.cell? ⟨b1 + 1, 3, none⟩ = some (.int .i64 y.f3))
      (go_keep)
      (first
        | (go_at_call 56; refine (dkey56 _ _).mono ?_; rintro e w2 ⟨rfl, hg⟩; have hgw : Grew W2 w2 := Grew.trans (by first | exact hgw | exact hgw.drew | exact hgw.drewN _) hg; have d0 := hgw.cell c0; have d1 := hgw.cell c1; have d2 := hgw.cell c2; have d3 := hgw.cell c3; have d4 := hgw.cell c4; have d5 := hgw.cell c5; have d6 := hgw.cell c6; have d7 := hgw.cell c7)
        | (go_at_call 58; refine (H1.out _).mono ?_; rintro e w2 ⟨rfl, rfl⟩))
    all_goals (
      go_wp2_with fail
      rw [rounds_succ]
      go_wp2_with fail
      go_region_held3 (fun w' => w'.cell? ⟨b1, 0, none⟩ = some (.int .i64 x.f0) ∧ w'.cell? ⟨b1, 1, none⟩ = some (.int .i64 x.f1) ∧ w'.cell? ⟨b1, 2, none⟩ = some (.int .i64 x.f2) ∧ w'.cell? ⟨b1, 3, none⟩ = some (.int .i64 x.f3) ∧ w'.cell? ⟨b1 + 1, 0, none⟩ = some (.int .i64 y.f0) ∧ w'.cell? ⟨b1 + 1, 1, none⟩ = some (.int .i64 y.f1) ∧ w'.cell? ⟨b1 + 1, 2, none⟩ = some (.int .i64 y.f2) ∧ w'.cell? ⟨b1 + 1, 3, none⟩ = some (.int .i64 y.f3))
        (go_keep)
        (first
          | (go_at_call 57; refine (dkey57 _ _).mono ?_; rintro e w2 ⟨rfl, hg⟩; have hgw : Grew W2 w2 := Grew.trans (by first | exact hgw | exact hgw.drew | exact hgw.drewN _) hg; have d0 := hgw.cell c0; have d1 := hgw.cell c1; have d2 := hgw.cell c2; have d3 := hgw.cell c3; have d4 := hgw.cell c4; have d5 := hgw.cell c5; have d6 := hgw.cell c6; have d7 := hgw.cell c7)
          | (go_at_call 58; refine (H2.out _).mono ?_; rintro e w2 ⟨rfl, rfl⟩))
      all_goals (
        go_wp2_with fail
        go_ret
        exact ⟨by first | rfl | simp, hg0.trans (by first | exact hgw | exact hgw.drew | exact hgw.drewN _)⟩)))
set_option maxHeartbeats 16000000 in
set_option maxRecDepth 100000 in
theorem cmp_w3 (x y : S39) (W : World) (r0 r1 r2 : Int) (h0 : ∀ W', Calls Tryz.prog 58 #[.int .i64 x.f1, .int .i64 y.f1] W' fun e w' => e = .returned (.int .i64 r0) ∧ w' = W') (h1 : ∀ W', Calls Tryz.prog 58 #[.int .i64 x.f2, .int .i64 y.f2] W' fun e w' => e = .returned (.int .i64 r1) ∧ w' = W') (h2 : ∀ W', Calls Tryz.prog 58 #[.int .i64 x.f0, .int .i64 y.f0] W' fun e w' => e = .returned (.int .i64 r2) ∧ w' = W') (q0 : r0 = 0) (q1 : r1 = 0) (q2 : r2 = 0) :
    Calls Tryz.prog 30 #[.agg #[.int .i64 x.f0, .int .i64 x.f1, .int .i64 x.f2, .int .i64 x.f3], .agg #[.int .i64 y.f0, .int .i64 y.f1, .int .i64 y.f2, .int .i64 y.f3]] W fun e w' => e = .returned (.int .i64 0) ∧ Grew W w' := by
  have H0 := Lib.hid h0
  have H1 := Lib.hid h1
  have H2 := Lib.hid h2
  clear h0 h1 h2
  subst q0
  subst q1
  subst q2
  have i0 : ∀ W, Sem.run Tryz.prog (Instr.index 91 (.agg #[.func (.func 55) #[] #[], .func (.func 56) #[] #[], .func (.func 57) #[] #[]]) (.int .i64 0)) W = .ok (.func (.func 55) #[] #[]) W := fun W => by kernel_rfl
  have i1 : ∀ W, Sem.run Tryz.prog (Instr.index 91 (.agg #[.func (.func 55) #[] #[], .func (.func 56) #[] #[], .func (.func 57) #[] #[]]) (.int .i64 1)) W = .ok (.func (.func 56) #[] #[]) W := fun W => by kernel_rfl
  have i2 : ∀ W, Sem.run Tryz.prog (Instr.index 91 (.agg #[.func (.func 55) #[] #[], .func (.func 56) #[] #[], .func (.func 57) #[] #[]]) (.int .i64 2)) W = .ok (.func (.func 57) #[] #[]) W := fun W => by kernel_rfl
  go_enter Tryz.func30, Tryz.ntmps30
  go_wp2_with fail
  obtain ⟨W2, hW2⟩ : ∃ w_ : World, w_ = (W.alloc (Obj.cells #[Value.int IntKind.i64 x.f0, Value.int IntKind.i64 x.f1, Value.int IntKind.i64 x.f2, Value.int IntKind.i64 x.f3] 39)).alloc (Obj.cells #[Value.int IntKind.i64 y.f0, Value.int IntKind.i64 y.f1, Value.int IntKind.i64 y.f2, Value.int IntKind.i64 y.f3] 39) := ⟨_, rfl⟩
  have hg0 : Grew W W2 := by rw [hW2]; exact ((Grew.refl _).alloc _).alloc _
  have c0 : W2.cell? ⟨W.heap.size, 0, none⟩ = some (.int .i64 x.f0) := by rw [hW2]; go_simp
  have c1 : W2.cell? ⟨W.heap.size, 1, none⟩ = some (.int .i64 x.f1) := by rw [hW2]; go_simp
  have c2 : W2.cell? ⟨W.heap.size, 2, none⟩ = some (.int .i64 x.f2) := by rw [hW2]; go_simp
  have c3 : W2.cell? ⟨W.heap.size, 3, none⟩ = some (.int .i64 x.f3) := by rw [hW2]; go_simp
  have c4 : W2.cell? ⟨W.heap.size + 1, 0, none⟩ = some (.int .i64 y.f0) := by rw [hW2]; go_simp
  have c5 : W2.cell? ⟨W.heap.size + 1, 1, none⟩ = some (.int .i64 y.f1) := by rw [hW2]; go_simp
  have c6 : W2.cell? ⟨W.heap.size + 1, 2, none⟩ = some (.int .i64 y.f2) := by rw [hW2]; go_simp
  have c7 : W2.cell? ⟨W.heap.size + 1, 3, none⟩ = some (.int .i64 y.f3) := by rw [hW2]; go_simp
  rw [← hW2]
  clear hW2
  generalize W.heap.size = b1 at *
  have hgw : Grew W2 W2 := Grew.refl _
  refine wp_loop_rounds 4 ?_
  rw [rounds_succ]
  go_wp2_with fail
  go_region_held3 (fun w' => w'.cell? ⟨b1, 0, none⟩ = some (.int .i64 x.f0) ∧ w'.cell? ⟨b1, 1, none⟩ = some (.int .i64 x.f1) ∧ w'.cell? ⟨b1, 2, none⟩ = some (.int .i64 x.f2) ∧ w'.cell? ⟨b1, 3, none⟩ = some (.int .i64 x.f3) ∧ w'.cell? ⟨b1 + 1, 0, none⟩ = some (.int .i64 y.f0) ∧ w'.cell? ⟨b1 + 1, 1, none⟩ = some (.int .i64 y.f1) ∧ w'.cell? ⟨b1 + 1, 2, none⟩ = some (.int .i64 y.f2) ∧ w'.cell? ⟨b1 + 1, 3, none⟩ = some (.int .i64 y.f3))
    (go_keep)
    (first
      | (go_at_call 55; refine (dkey55 _ _).mono ?_; rintro e w2 ⟨rfl, hg⟩; have hgw : Grew W2 w2 := Grew.trans (by first | exact hgw | exact hgw.drew | exact hgw.drewN _) hg; have d0 := hgw.cell c0; have d1 := hgw.cell c1; have d2 := hgw.cell c2; have d3 := hgw.cell c3; have d4 := hgw.cell c4; have d5 := hgw.cell c5; have d6 := hgw.cell c6; have d7 := hgw.cell c7)
      | (go_at_call 58; refine (H0.out _).mono ?_; rintro e w2 ⟨rfl, rfl⟩))
  all_goals (
    go_wp2_with fail
    rw [rounds_succ]
    go_wp2_with fail
    go_region_held3 (fun w' => w'.cell? ⟨b1, 0, none⟩ = some (.int .i64 x.f0) ∧ w'.cell? ⟨b1, 1, none⟩ = some (.int .i64 x.f1) ∧ w'.cell? ⟨b1, 2, none⟩ = some (.int .i64 x.f2) ∧ w'.cell? ⟨b1, 3, none⟩ = some (.int .i64 x.f3) ∧ w'.cell? ⟨b1 + 1, 0, none⟩ = some (.int .i64 y.f0) ∧ w'.cell? ⟨b1 + 1, 1, none⟩ = some (.int .i64 y.f1) ∧ w'.cell? ⟨b1 + 1, 2, none⟩ = some (.int .i64 y.f2) ∧ w'.cell? ⟨b1 + 1, 3, none⟩ = some (.int .i64 y.f3))
      (go_keep)
      (first
        | (go_at_call 56; refine (dkey56 _ _).mono ?_; rintro e w2 ⟨rfl, hg⟩; have hgw : Grew W2 w2 := Grew.trans (by first | exact hgw | exact hgw.drew | exact hgw.drewN _) hg; have d0 := hgw.cell c0; have d1 := hgw.cell c1; have d2 := hgw.cell c2; have d3 := hgw.cell c3; have d4 := hgw.cell c4; have d5 := hgw.cell c5; have d6 := hgw.cell c6; have d7 := hgw.cell c7)
        | (go_at_call 58; refine (H1.out _).mono ?_; rintro e w2 ⟨rfl, rfl⟩))
    all_goals (
      go_wp2_with fail
      rw [rounds_succ]
      go_wp2_with fail
      go_region_held3 (fun w' => w'.cell? ⟨b1, 0, none⟩ = some (.int .i64 x.f0) ∧ w'.cell? ⟨b1, 1, none⟩ = some (.int .i64 x.f1) ∧ w'.cell? ⟨b1, 2, none⟩ = some (.int .i64 x.f2) ∧ w'.cell? ⟨b1, 3, none⟩ = some (.int .i64 x.f3) ∧ w'.cell? ⟨b1 + 1, 0, none⟩ = some (.int .i64 y.f0) ∧ w'.cell? ⟨b1 + 1, 1, none⟩ = some (.int .i64 y.f1) ∧ w'.cell? ⟨b1 + 1, 2, none⟩ = some (.int .i64 y.f2) ∧ w'.cell? ⟨b1 + 1, 3, none⟩ = some (.int .i64 y.f3))
        (go_keep)
        (first
          | (go_at_call 57; refine (dkey57 _ _).mono ?_; rintro e w2 ⟨rfl, hg⟩; have hgw : Grew W2 w2 := Grew.trans (by first | exact hgw | exact hgw.drew | exact hgw.drewN _) hg; have d0 := hgw.cell c0; have d1 := hgw.cell c1; have d2 := hgw.cell c2; have d3 := hgw.cell c3; have d4 := hgw.cell c4; have d5 := hgw.cell c5; have d6 := hgw.cell c6; have d7 := hgw.cell c7)
          | (go_at_call 58; refine (H2.out _).mono ?_; rintro e w2 ⟨rfl, rfl⟩))
      all_goals (
        go_wp2_with fail
        rw [rounds_succ]
        go_wp2_with fail
        go_ret
        exact ⟨by first | rfl | simp, hg0.trans (by first | exact hgw | exact hgw.drew | exact hgw.drewN _)⟩)))
theorem dcmp (x y : S39) (W : World) : Calls Tryz.prog 30 #[.agg #[.int .i64 x.f0, .int .i64 x.f1, .int .i64 x.f2, .int .i64 x.f3], .agg #[.int .i64 y.f0, .int .i64 y.f1, .int .i64 y.f2, .int .i64 y.f3]] W fun e w' => e = .returned (.int .i64 (cmpD x y)) ∧ Grew W w' := by
  have h0 := fun W' => Tryz.cmp_Compare_int x.f1 y.f1 W'
  have h1 := fun W' => Tryz.cmp_Compare_int x.f2 y.f2 W'
  have h2 := fun W' => Tryz.cmp_Compare_int x.f0 y.f0 W'
  unfold cmpD
  by_cases q0 : Lib.compareInt x.f1 y.f1 = 0
  · rw [if_pos q0]
    by_cases q1 : Lib.compareInt x.f2 y.f2 = 0
    · rw [if_pos q1]
      by_cases q2 : Lib.compareInt x.f0 y.f0 = 0
      · rw [q2]
        exact cmp_w3 x y W _ _ _ h0 h1 h2 q0 q1 q2
      · exact cmp_w2 x y W _ _ _ h0 h1 h2 q0 q1 q2
    · rw [if_neg q1]
      exact cmp_w1 x y W _ _ _ h0 h1 h2 q0 q1
  · rw [if_neg q0]
    exact cmp_w0 x y W _ _ _ h0 h1 h2 q0
set_option maxHeartbeats 8000000 in
set_option maxRecDepth 100000 in
theorem clo29 (B : Nat) (ad : Addr) (n c i j : Nat) (x y : S39) (W : World) (hi : i < n) (hj : j < n) (hn : n < 4294967296) (hB : W.cell? ⟨B, 0, none⟩ = some (.slice (some ad) n c)) (x0 : W.cell? (ad.add (i * 4)) = some (.int .i64 x.f0)) (x1 : W.cell? ⟨(ad.add (i * 4)).block, (ad.add (i * 4)).off + 1, none⟩ = some (.int .i64 x.f1)) (x2 : W.cell? ⟨(ad.add (i * 4)).block, (ad.add (i * 4)).off + 2, none⟩ = some (.int .i64 x.f2)) (x3 : W.cell? ⟨(ad.add (i * 4)).block, (ad.add (i * 4)).off + 3, none⟩ = some (.int .i64 x.f3)) (y0 : W.cell? (ad.add (j * 4)) = some (.int .i64 y.f0)) (y1 : W.cell? ⟨(ad.add (j * 4)).block, (ad.add (j * 4)).off + 1, none⟩ = some (.int .i64 y.f1)) (y2 : W.cell? ⟨(ad.add (j * 4)).block, (ad.add (j * 4)).off + 2, none⟩ = some (.int .i64 y.f2)) (y3 : W.cell? ⟨(ad.add (j * 4)).block, (ad.add (j * 4)).off + 3, none⟩ = some (.int .i64 y.f3)) :
    Calls Tryz.prog 29 #[.int .i64 i, .int .i64 j, .pointer (some ⟨B, 0, none⟩)] W fun e w' => e = .returned (.int .i64 (cmpD x y)) ∧ Grew W w' := by
  have hcon := fun W' => dcmp x y W'
  generalize cmpD x y = r at hcon ⊢
  have HC := Lib.hid hcon
  clear hcon
  have p0 : 0 ≤ (i : Int) := by omega
  have p1 : (i : Int) < (n : Int) := by omega
  have p2 : 0 ≤ (j : Int) := by omega
  have p3 : (j : Int) < (n : Int) := by omega
  replace p0 := eq_true p0
  replace p1 := eq_true p1
  replace p2 := eq_true p2
  replace p3 := eq_true p3
  have hgw : Grew W W := Grew.refl _
  go_enter Tryz.func29, Tryz.ntmps29
  go_wp2_with fail
  go_region_held3 (fun w' => w'.cell? ⟨B, 0, none⟩ = some (.slice (some ad) n c) ∧ w'.cell? (ad.add (i * 4)) = some (.int .i64 x.f0) ∧ w'.cell? ⟨(ad.add (i * 4)).block, (ad.add (i * 4)).off + 1, none⟩ = some (.int .i64 x.f1) ∧ w'.cell? ⟨(ad.add (i * 4)).block, (ad.add (i * 4)).off + 2, none⟩ = some (.int .i64 x.f2) ∧ w'.cell? ⟨(ad.add (i * 4)).block, (ad.add (i * 4)).off + 3, none⟩ = some (.int .i64 x.f3) ∧ w'.cell? (ad.add (j * 4)) = some (.int .i64 y.f0) ∧ w'.cell? ⟨(ad.add (j * 4)).block, (ad.add (j * 4)).off + 1, none⟩ = some (.int .i64 y.f1) ∧ w'.cell? ⟨(ad.add (j * 4)).block, (ad.add (j * 4)).off + 2, none⟩ = some (.int .i64 y.f2) ∧ w'.cell? ⟨(ad.add (j * 4)).block, (ad.add (j * 4)).off + 3, none⟩ = some (.int .i64 y.f3))
    (go_keep)
    (first
      | (go_at_call 30; refine (HC.out _).mono ?_; rintro e w2 ⟨rfl, hg⟩; have hgw : Grew W w2 := Grew.trans (by first | exact hgw | exact hgw.drew | exact hgw.drewN _) hg; have d_ := hgw.cell hB; have dx0 := hgw.cell x0; have dx1 := hgw.cell x1; have dx2 := hgw.cell x2; have dx3 := hgw.cell x3; have dy0 := hgw.cell y0; have dy1 := hgw.cell y1; have dy2 := hgw.cell y2; have dy3 := hgw.cell y3))
  all_goals (go_wp2; go_ret; exact ⟨rfl, by first | exact hgw | exact hgw.drew | exact hgw.drewN _⟩)
def slices_CloneD.f (l0 : List S39) : Option (List S39) := if l0.length < 4294967296 then some l0 else none
set_option maxHeartbeats 8000000 in
set_option maxRecDepth 100000 in
theorem slices_CloneD.calls (A0 : Option Addr) (c0 : Nat) (l0 : List S39) (r : List S39) (w : World) (hr0 : Kd.C k39 w A0 l0.length l0) (hc0 : l0.length ≤ c0) (h : slices_CloneD.f l0 = some r) :
    Calls Tryz.prog 31 #[.slice A0 l0.length c0] w fun e w' => ∃ v0_ : Value, e = .returned (v0_) ∧ Kd.R k39 39 w' w.heap.size (fun _ => True) v0_ r ∧ Below w.heap.size w w' := by
  have q22 : ∀ (w : World) (a : Option Addr) (n c n' c' : Nat), (binOp .eql 22 (.slice a n c) (.slice none n' c')).run Tryz.prog w = .ok (.bool a.isNone) w := fun w a n c n' c' => Lib.run_eql_slice_nil w _ _ a n c n' c' Tryz.underlying22
  have hinfo : (Tryz.prog.info? 39).map (fun i => (i.zero, i.size, i.bytes)) = some (some (.agg #[(.int .i64 0), (.int .i64 0), (.int .i64 0), (.int .i64 0)]), 4, 32) := by kernel_rfl
  have HR0 := Aside0.mk hr0
  have HC0 := Aside0.mk hc0
  clear hr0 hc0
  unfold slices_CloneD.f at h
  split at h
  case isFalse => exact absurd h (by simp)
  rename_i hlen
  have HL := Aside0.mk hlen
  obtain rfl := Option.some.inj h
  clear h hlen
  cases A0 with
  | none =>
    have h0 : l0 = [] := by
      cases l0 with
      | nil => rfl
      | cons x t =>
        obtain ⟨ad, e, _⟩ := at_T39 HR0.out 0 (by omega) (by simp)
        cases e
    subst h0
    go_enter Tryz.func31, Tryz.ntmps31
    go_wp2
    go_ret
    exact ⟨_, rfl, Kd.R_nil _ _ _ _ _, Below.refl _ _⟩
  | some ad =>
    go_enter Tryz.func31, Tryz.ntmps31
    go_wp2_with (first
      | ((with_reducible refine gate_dst (N := 5) rfl ?_); refine Kd.R_lit k39 (w0 := w) w.heap.size 39 ?hg (N := 5) ?hd (xs := ([] : List S39)) (inner := []) (ok := fun _ => True) (okp := fun _ => True) ?hr ?hp (fun _ hk => hk) trivial (Below.refl _ _) (Nat.le_refl _) (by simp) ?_; (case hd => rfl); (case hg => rfl); (case hr => first | (go_simp; done) | (go_simp; rfl)); (case hp => exact (Reps.none _ _)); intro v5 w5 ho hb hg_ hnew_; have HO := Aside0.mk ho; have HB := Aside0.mk hb; clear ho hb hg_ hnew_)
      | ((with_reducible refine gate_builtin (b := .append) (xs := #[.tmp 5, .tmp 6]) rfl ?_); at_builtin; refine Kd.R_append_rows k39 (w0 := w) w.heap.size rfl (.tmp 5) (.tmp 6) 22 39 (.agg #[(.int .i64 0), (.int .i64 0), (.int .i64 0), (.int .i64 0)]) 32 rfl Tryz.underlying22 hinfo rfl (by decide) (by omega) v5 [] l0 _ _ _ (fun _ => True) (fun _ => False) rfl rfl HO.out (Kd.C_below HR0.out HB.out) (fun _ _ h => h) (fun _ h => h.elim) (fun _ _ => trivial) HB.out HB.out.size (by have := HL.out; simp; omega) ?_; intro v1 w6 ho hb hg hat))
    go_ret
    exact ⟨_, rfl, ho, hb⟩
open Go.Sort (putRow Holds putCells mapBlock)
/-! ### the sort -/
theorem cmpD_lt (x y : S39) : cmpD x y < 0 ↔ (x.f1 < y.f1 ∨ (x.f1 = y.f1 ∧ (x.f2 < y.f2 ∨ (x.f2 = y.f2 ∧ x.f0 < y.f0)))) := by
  have h : ∀ a b : Int, (Lib.compareInt a b = 0 ↔ a = b) ∧ (Lib.compareInt a b < 0 ↔ a < b) := by
    intro a b
    unfold Lib.compareInt
    by_cases h1 : a < b
    · simp [h1]; omega
    · by_cases h2 : b < a <;> simp [h1, h2] <;> omega
  obtain ⟨a1, a2⟩ := h x.f1 y.f1
  obtain ⟨b1, b2⟩ := h x.f2 y.f2
  obtain ⟨_, c2⟩ := h x.f0 y.f0
  unfold cmpD
  split
  · rename_i e1
    have e1 := a1.mp e1
    split
    · rename_i e2
      have e2 := b1.mp e2
      rw [c2]
      omega
    · rename_i e2
      have e2 : ¬ x.f2 = y.f2 := fun e => e2 (b1.mpr e)
      rw [b2]
      omega
  · rename_i e1
    have e1 : ¬ x.f1 = y.f1 := fun e => e1 (a1.mpr e)
    rw [a2]
    omega
def encP (n : Nat) (x : Fin n) : Value := .int .i64 (x.val : Int)
def cfP (l : List S39) (x y : Fin l.length) : Int := cmpD (l[x.val]) (l[y.val])
theorem ltP (l : List S39) (x y : Fin l.length) : ltOf (cfP l) x y = true ↔ cmpD l[x.val] l[y.val] < 0 := by
  unfold ltOf cfP
  rw [decide_eq_true_eq]
theorem swoP (l : List S39) : Go.Sort.SWO (ltOf (cfP l)) where
  irrefl x := by
    rw [Bool.eq_false_iff]
    intro h
    have := (cmpD_lt _ _).mp ((ltP l x x).mp h)
    omega
  trans x y z h1 h2 := by
    have h1 := (cmpD_lt _ _).mp ((ltP l x y).mp h1)
    have h2 := (cmpD_lt _ _).mp ((ltP l y z).mp h2)
    exact (ltP l x z).mpr ((cmpD_lt _ _).mpr (by omega))
  ntrans x y z h1 h2 := by
    rw [Bool.eq_false_iff] at *
    intro h3
    have h3 := (cmpD_lt _ _).mp ((ltP l x z).mp h3)
    have h1 : ¬ cmpD l[x.val] l[y.val] < 0 := fun h => h1 ((ltP l x y).mpr h)
    have h2 : ¬ cmpD l[y.val] l[z.val] < 0 := fun h => h2 ((ltP l y z).mpr h)
    rw [cmpD_lt] at h1 h2
    omega
def sortP (l : List S39) : Array (Fin l.length) := if h : 0 < l.length then (haveI : Inhabited (Fin l.length) := ⟨⟨0, h⟩⟩; Go.Sort.pdq (ltOf (cfP l)) (List.finRange l.length).toArray 0 l.length (Lib.bitLen l.length) true true) else #[]
/-- The debts' places in the order of the law. -/
def ordP (l : List S39) : List Nat := (sortP l).toList.map Fin.val
theorem sortP_size (l : List S39) (hpos : 0 < l.length) : (sortP l).size = l.length := by
  letI inh : Inhabited (Fin l.length) := ⟨⟨0, hpos⟩⟩
  have h := Go.Sort.pdq_sorts (ltOf (cfP l)) (swoP l) (List.finRange l.length).toArray 0 l.length (Lib.bitLen l.length) true true (Nat.zero_le _) (by simp) (Or.inl rfl)
  unfold sortP
  rw [dif_pos hpos, h.1.1]
  simp
theorem ordP_len (l : List S39) (hpos : 0 < l.length) : (ordP l).length = l.length := by
  unfold ordP
  rw [List.length_map, Array.length_toList, sortP_size l hpos]
def payStep (st : List S39 × Int) (i : Nat) : List S39 × Int :=
  let x := st.1.getD i z39
  let p := if x.f3 < st.2 then x.f3 else st.2
  (st.1.set i ⟨x.f0, x.f1, x.f2, wrap64 (x.f3 - p)⟩, wrap64 (st.2 - p))
def payF (l : List S39) (c : Int) : List S39 × Int := (ordP l).foldl payStep (l, c)
theorem old_cell {w w' : World} (a : Addr) (h : w'.heap[a.block]? = w.heap[a.block]?) : w'.cell? a = w.cell? a := by
  unfold World.cell?
  rw [h]
theorem far_putRow {α : Type} [Inhabited α] (enc : α → Value) (w : World) (blk off : Nat) (d : Array α) (k : Nat) (h : k ≠ blk) : (putRow enc w blk off d).heap[k]? = w.heap[k]? := by
  simp only [putRow, mapBlock, Array.getElem?_modify]
  rw [if_neg (Ne.symm h)]
theorem sort_pay (l : List S39) (hpos : 0 < l.length) (hn : l.length ≤ 100) (w W : World) (ad : Addr) (c B g cap : Nat) (hB : Below w.heap.size w W) (hr : Kd.C k39 w (some ad) l.length l) (hbx : W.cell? ⟨B, 0, none⟩ = some (.slice (some ad) l.length c)) (hBg : B ≠ g) (hgw : w.heap.size ≤ g) (hg : g < W.heap.size)
    (hrow : ∀ j, j < l.length → W.cell? ⟨g, j, none⟩ = some (.int .i64 (j : Int)) ∧ W.frozen? ⟨g, j, none⟩ = false) :
    Calls Tryz.prog 28 #[.slice (some ⟨g, 0, none⟩) l.length cap, .func (.func 29) #[] #[.pointer (some ⟨B, 0, none⟩)]] W fun e w' => e = .returned (.tuple #[]) ∧ Below w.heap.size w w' ∧ W.heap.size ≤ w'.heap.size ∧ w'.cell? ⟨B, 0, none⟩ = some (.slice (some ad) l.length c) ∧ ∀ j, j < (ordP l).length → w'.cell? ⟨g, j, none⟩ = some (.int .i64 ((ordP l).getD j 0 : Nat)) := by
  letI inh : Inhabited (Fin l.length) := ⟨⟨0, hpos⟩⟩
  have eg : ∀ args w, (callFunc 29 args).run Tryz.prog w = .ok (.enter 29 args) w := enters_of Tryz.func29 (by kernel_rfl) rfl
  let d0 : Array (Fin l.length) := (List.finRange l.length).toArray
  have hd0 : d0.size = l.length := by simp [d0]
  have hget : ∀ j (hj : j < l.length), d0[j]! = ⟨j, hj⟩ := by
    intro j hj
    rw [getElem!_pos d0 j (by rw [hd0]; exact hj)]
    simp [d0]
  have hH : Holds (encP l.length) W g 0 d0 := by
    intro t ht
    rw [hd0] at ht
    rw [Nat.zero_add, hget t ht]
    exact hrow t ht
  have hcmp : CmpLays1 Tryz.prog 29 #[.pointer (some ⟨B, 0, none⟩)] (encP l.length) (cfP l) g 0 d0.size W := by
    intro m os dk hdk x y
    have old : ∀ k, k ≠ g → k < W.heap.size → (sortWorld (encP l.length) W g 0 m dk os).heap[k]? = W.heap[k]? := by
      intro k hk hkl
      unfold sortWorld
      rw [Go.Sort.heap_grow_old _ _ (by show k < (putRow (encP l.length) (Go.Sort.ahead W m) g 0 dk).heap.size; simp; exact hkl), far_putRow _ _ _ _ _ _ hk]
      rfl
    have hBl := World.block_lt_of_cell? W _ hbx
    have cell : ∀ z : Fin l.length, ∀ a v, w.cell? a = some v → (sortWorld (encP l.length) W g 0 m dk os).cell? a = some v := by
      intro z a v ha
      have h1 := World.block_lt_of_cell? w _ ha
      rw [old_cell a (old _ (by omega) (by have := hB.size; omega)), hB.cell h1, ha]
    obtain ⟨adx, ex, x0, x1, x2, x3⟩ := at_T39 hr (x.val : Int) (by omega) (by have := x.isLt; omega)
    obtain ⟨ady, ey, y0, y1, y2, y3⟩ := at_T39 hr (y.val : Int) (by omega) (by have := y.isLt; omega)
    cases ex
    cases ey
    simp only [Int.toNat_natCast] at x0 x1 x2 x3 y0 y1 y2 y3
    have e1 : rd_T39 l (x.val : Int) = l[x.val] := by simp [rd_T39, List.getD_eq_getElem?_getD, List.getElem?_eq_getElem x.isLt]
    have e2 : rd_T39 l (y.val : Int) = l[y.val] := by simp [rd_T39, List.getD_eq_getElem?_getD, List.getElem?_eq_getElem y.isLt]
    rw [e1] at x0 x1 x2 x3
    rw [e2] at y0 y1 y2 y3
    have hc := clo29 B _ l.length c x.val y.val l[x.val] l[y.val] (sortWorld (encP l.length) W g 0 m dk os) x.isLt y.isLt (by omega) ((old_cell _ (old _ hBg hBl)).trans hbx) (cell x _ _ x0) (cell x _ _ x1) (cell x _ _ x2) (cell x _ _ x3) (cell x _ _ y0) (cell x _ _ y1) (cell x _ _ y2) (cell x _ _ y3)
    refine hc.mono ?_
    rintro e w' ⟨rfl, q, os', hw⟩
    exact ⟨rfl, q, os', hw⟩
  have hcon := Any.slices_SortFunc_eq Tryz.laySort1 (encP l.length) (fun _ => rfl) (cfP l) (swoP l) 29 #[.pointer (some ⟨B, 0, none⟩)] g 0 cap d0 W eg hcmp hH hg (by rw [hd0]; omega)
  rw [hd0] at hcon
  have hs : Go.Sort.pdq (ltOf (cfP l)) d0 0 l.length (Lib.bitLen l.length) true true = sortP l := by
    unfold sortP
    rw [dif_pos hpos]
  rw [hs] at hcon
  have hsz : (sortP l).size = l.length := by
    have h := Go.Sort.pdq_sorts (ltOf (cfP l)) (swoP l) d0 0 d0.size (Lib.bitLen l.length) true true (Nat.zero_le _) (Nat.le_refl _) (Or.inl rfl)
    rw [hd0, hs] at h
    have := h.1.1
    rw [hd0] at this
    exact this
  refine hcon.mono ?_
  rintro e w' ⟨rfl, m, os, rfl⟩
  have old : ∀ k, k ≠ g → k < W.heap.size → (sortWorld (encP l.length) W g 0 m (sortP l) os).heap[k]? = W.heap[k]? := by
    intro k hk hkl
    unfold sortWorld
    rw [Go.Sort.heap_grow_old _ _ (by show k < (putRow (encP l.length) (Go.Sort.ahead W m) g 0 (sortP l)).heap.size; simp; exact hkl), far_putRow _ _ _ _ _ _ hk]
    rfl
  have hsize : W.heap.size ≤ (sortWorld (encP l.length) W g 0 m (sortP l) os).heap.size := by
    unfold sortWorld
    simp [grow, Go.Sort.ahead]
  have hH2 : Holds (encP l.length) (sortWorld (encP l.length) W g 0 m (sortP l) os) g 0 (sortP l) := by
    unfold sortWorld
    refine Go.Sort.holds_grow (encP l.length) _ _ _ _ _ ?_ (Go.Sort.holds_putRow (encP l.length) _ _ _ _ _ (Go.Sort.holds_ahead (encP l.length) _ _ _ _ _ hH) (by rw [hsz, hd0]))
    simp [Go.Sort.ahead]
    exact hg
  refine ⟨rfl, ⟨hB.os, hB.tape, hB.output, Nat.le_trans hB.size hsize, fun k hk => (old k (by omega) (by have := hB.size; omega)).trans (hB.block k hk)⟩, hsize, (old_cell _ (old _ hBg (World.block_lt_of_cell? W _ hbx))).trans hbx, fun j hj => ?_⟩
  have hj2 : j < (sortP l).size := by simpa [ordP] using hj
  have := (hH2 j hj2).1
  rw [Nat.zero_add] at this
  rw [this, getElem!_pos (sortP l) j hj2]
  have e : (ordP l).getD j 0 = ((sortP l)[j]).val := by
    unfold ordP
    simp [List.getD_eq_getElem?_getD, hj2]
  rw [e]
  rfl

/-! ### Pay -/
theorem fill_step (n k : Nat) (hk : k < n) : (((List.range k).map (fun i : Nat => (i : Int))) ++ List.replicate (n - k) (0 : Int)).set k (k : Int) = ((List.range (k + 1)).map (fun i : Nat => (i : Int))) ++ List.replicate (n - (k + 1)) (0 : Int) := by
  rw [List.set_append_right _ _ (by simp)]
  simp only [List.length_map, List.length_range, Nat.sub_self]
  obtain ⟨m, hm⟩ : ∃ m, n - k = m + 1 := ⟨n - k - 1, by omega⟩
  rw [hm, List.replicate_succ, List.set_cons_zero, List.range_succ, List.map_append, List.append_assoc, show n - (k + 1) = m by omega]
  rfl
def fillL (n k : Nat) : List Int := ((List.range k).map (fun i : Nat => (i : Int))) ++ List.replicate (n - k) (0 : Int)
theorem fillL_len (n k : Nat) (hk : k ≤ n) : (fillL n k).length = n := by unfold fillL; simp; omega
theorem fillL_at (n k : Nat) (hk : k ≤ n) (j : Nat) (hj : j < k) : (fillL n k).getD j 0 = (j : Int) := by
  unfold fillL
  rw [List.getD_eq_getElem?_getD, List.getElem?_append_left (by simp; omega)]
  simp [hj]
theorem meas_lt2 (n k : Nat) (h : k < n) : n - ((k + 1 : Nat) : Int).toNat < n - ((k : Nat) : Int).toNat := by simp only [Int.toNat_natCast]; omega
theorem int_row {wr : World} {b g n cap : Nat} {xs : List Int} (h : Kd.R (Kd.int .i64) 3 wr b (fun _ => True) (.slice (some ⟨g, 0, none⟩) n cap) xs) (hn : xs.length = n) (k : Nat) (hk : k < n) (x : Int) :
    wr.cell? ⟨g, k, none⟩ = some (.int .i64 (xs.getD k 0)) ∧ wr.frozen? ⟨g, k, none⟩ = false ∧ Kd.R (Kd.int .i64) 3 (wr.setCell ⟨g, k, none⟩ (.int .i64 x)) b (fun _ => True) (.slice (some ⟨g, 0, none⟩) n cap) (xs.set k x) := by
  subst hn
  obtain ⟨z0, z1⟩ := Kd.R_cell (0 : Int) h (k : Int) (by omega) (by omega)
  obtain ⟨hp, _⟩ := Kd.R_put h (k : Int) x
  simp only [Int.toNat_natCast] at z0 z1 hp
  refine ⟨?_, z1, hp⟩
  rw [z0]
  simp [rdOf]
theorem debt_row {wr : World} {b g n cap : Nat} {xs : List S39} (h : Kd.R k39 39 wr b (fun _ => True) (.slice (some ⟨g, 0, none⟩) n cap) xs) (k : Nat) (hk : k < n) (v : Int) :
    wr.cell? ⟨g, k * 4 + 3, none⟩ = some (.int .i64 (xs.getD k z39).f3) ∧ wr.frozen? ⟨g, k * 4 + 3, none⟩ = false ∧ Kd.R k39 39 (wr.setCell ⟨g, k * 4 + 3, none⟩ (.int .i64 v)) b (fun _ => True) (.slice (some ⟨g, 0, none⟩) n cap) (xs.set k ⟨(xs.getD k z39).f0, (xs.getD k z39).f1, (xs.getD k z39).f2, v⟩) := by
  obtain ⟨c, hcl, hM, hcc, hfr⟩ := Kd.R_elem h z39 (k : Int) (by omega) (by omega)
  simp only [Int.toNat_natCast] at hM hcc hfr
  have hc := k39_openM hM
  generalize hx : xs.getD k z39 = x at *
  subst hc
  have hs := (Kd.R_seg h (k : Int) (by omega) (by omega) (seg := [.int .i64 v]) (j := 3) hcl (by simpa only [Int.toNat_natCast] using hcc) (show 4 ≤ 4 from by decide) (x' := (⟨x.f0, x.f1, x.f2, v⟩ : S39)) (k39_mkM _ _ (fun _ => False) (⟨x.f0, x.f1, x.f2, v⟩ : S39)) (fun _ hk => hk.elim)).1
  simp only [Int.toNat_natCast] at hs
  exact ⟨hcc 3 _ rfl, hfr 3, hs⟩
theorem ordP_lt (l : List S39) (j : Nat) (hj : j < (ordP l).length) : (ordP l).getD j 0 < l.length := by
  have hm : (ordP l).getD j 0 ∈ ordP l := by rw [List.getD_eq_getElem?_getD, List.getElem?_eq_getElem hj, Option.getD_some]; exact List.getElem_mem _
  unfold ordP at hm
  obtain ⟨x, _, hx⟩ := List.mem_map.mp hm
  unfold ordP
  rw [← hx]
  exact x.isLt
theorem payStep_len (st : List S39 × Int) (i : Nat) : (payStep st i).1.length = st.1.length := by
  unfold payStep
  simp
theorem fold_take (l : List Nat) (j : Nat) (hj : j < l.length) (st : List S39 × Int) : (l.take (j + 1)).foldl payStep st = payStep ((l.take j).foldl payStep st) (l.getD j 0) := by
  rw [List.take_succ_eq_append_getElem hj, List.foldl_append, List.getD_eq_getElem?_getD, List.getElem?_eq_getElem hj]
  rfl
set_option maxHeartbeats 16000000 in
set_option maxRecDepth 100000 in
theorem pay_main (ad : Addr) (c0 : Nat) (l0 : List S39) (a1 : Int) (w : World) (hr0 : Kd.C k39 w (some ad) l0.length l0) (hc0 : l0.length ≤ c0) (hv : setoff_Valid.f l0 = some true) (hb1 : setoff_between.f a1 0 1000000000 = some true) (hpos : 0 < l0.length) (hn : l0.length ≤ 100) :
    Calls Tryz.prog 10 #[.slice (some ad) l0.length c0, .int .i64 a1] w fun e w' => ∃ v0_ : Value, e = .returned (.tuple #[v0_, .int .i64 (payF l0 a1).2, .int .i64 0]) ∧ Kd.R k39 39 w' w.heap.size (fun _ => True) v0_ (payF l0 a1).1 ∧ Below w.heap.size w w' := by
  have hu39 := Tryz.underlying39
  have HR0 := Aside0.mk hr0
  have HC0 := Aside0.mk hc0
  have HV := Aside0.mk hv
  have HB1 := Aside0.mk hb1
  have HN := Aside0.mk hn
  have HP := Aside0.mk hpos
  clear hr0 hc0 hv hb1
  have HB := Aside0.mk (Below.refl w.heap.size w)
  go_enter Tryz.func10, Tryz.ntmps10
  go_upto_region 3 with (first
    | (go_at_call 12; with_reducible refine (setoff_Valid.calls (some ad) c0 l0 true _ (Kd.C_alloc HR0.out _) HC0.out HV.out).mono ?_; rintro e w1 ⟨rfl, hb⟩; have bx_ : w1.heap[w.heap.size]? = some (.cells #[.slice (some ad) l0.length c0] 22 (0, 0)) := blk_below (heap_alloc_new w _) hb; have hb2 : Below w.heap.size w w1 := below_step (below_alloc HB.out _) hb; clear HB hb; have HB := Aside0.mk hb2; have BX := Aside0.mk bx_; have cb : w1.cell? ⟨w.heap.size, 0, none⟩ = some (.slice (some ad) l0.length c0) := (blk_cell BX.out 0).trans rfl; clear hb2 bx_)
    | (go_at_call 27; with_reducible refine (setoff_between.calls _ _ _ true _ HB1.out).mono ?_; rintro e w2 ⟨rfl, m2, rfl⟩))
  go_wp2_with (first
    | ((with_reducible refine gate_dst (N := 23) rfl ?_); refine Kd.R_make (Kd.int .i64) (w0 := w) w.heap.size 3 rfl (N := 23) rfl 52 (.tmp 22) (.tmp 22) rfl (l0.length : Int) rfl rfl Tryz.underlying52 (.int .i64 0) 8 (by kernel_rfl) rfl (by decide) (by omega) (0 : Int) (ok := fun _ => True) (okp := fun _ => True) rfl (fun _ h => h) trivial (by omega) (by have := HN.out; simp; omega) (pw_below_drewN HB.out _) HB.out.size ?_; intro v7 w4 ho hb hg hnew; rw [Int.toNat_natCast] at ho; obtain ⟨g, cap, hv7, hgb, hgl, cells, hcc⟩ := Kd.R_form ho (by rw [List.length_replicate]; exact HP.out); rw [List.length_replicate] at hv7; subst hv7; have bx_ : w4.heap[w.heap.size]? = some (.cells #[.slice (some ad) l0.length c0] 22 (0, 0)) := blk_grown (blk_drewN BX.out m2) hg (by simp); have ne_ : w.heap.size ≠ g := blk_ne bx_ hcc (by decide); clear HB BX cb hg hnew hcc; have HB := Aside0.mk hb; have BX := Aside0.mk bx_; have NE := Aside0.mk ne_; have HO := Aside0.mk ho; have GE := Aside0.mk hgb; clear hb bx_ ne_ ho hgb))
  go_loopw [26] (fun v26 wr => ∃ k : Nat, k ≤ l0.length ∧ v26 = .int .i64 k ∧ Aside0 (Kd.R (Kd.int .i64) 3 wr w.heap.size (fun _ => True) (.slice (some ⟨g, 0, none⟩) l0.length cap) (fillL l0.length k)) ∧ Aside0 (wr.heap[w.heap.size]? = some (.cells #[.slice (some ad) l0.length c0] 22 (0, 0))) ∧ Aside0 (Below w.heap.size w wr)) (fun v26 _ => l0.length - (intOf v26).toNat)
  case atStart => exact ⟨0, Nat.zero_le _, rfl, ⟨by unfold fillL; simpa using HO.out⟩, BX, HB⟩
  case round =>
    clear HB HO BX
    obtain ⟨k, hk, rfl, HO, BX, HB⟩ := hrel
    by_cases hkl : k < l0.length
    · have q0 : 0 ≤ (k : Int) := by omega
      have q1 : (k : Int) < (l0.length : Int) := by omega
      have qb := decide_eq_true q1
      have hlen := fillL_len l0.length k hk
      obtain ⟨z0, z1, hp⟩ := int_row HO.out hlen k hkl (k : Int)
      have hn_ := HN.out
      have w1_ : wrap64 ((k : Int) + 1) = ((k + 1 : Nat) : Int) := by unfold wrap64; omega
      have W1 := Aside0.mk w1_
      have hset : (fillL l0.length k).set k (k : Int) = fillL l0.length (k + 1) := fill_step _ _ hkl
      rw [hset] at hp
      have HP2 := Aside0.mk hp
      have BX2 := Aside0.mk (blk_far BX.out (p := ⟨g, k, none⟩) NE.out (.int .i64 (k : Int)))
      have HB2 := Aside0.mk (below_set (j := k) (v := .int .i64 (k : Int)) HB.out GE.out)
      replace q0 := eq_true q0
      replace q1 := eq_true q1
      clear hp w1_ hset hn_ hlen
      go_wp2
      go_roundw
      case rel => exact ⟨k + 1, by omega, (by first | exact congrArg (Value.int .i64) W1.out | exact congrArg (Value.int .i64) (by omega : (k : Int) + 1 = ((k + 1 : Nat) : Int))), HP2, BX2, HB2⟩
      case measure => (try simp only [intOf_i64So]); (first | rw [W1.out] | rw [show (k : Int) + 1 = ((k + 1 : Nat) : Int) by omega]); exact meas_lt2 _ _ hkl
    · have hk2 : k = l0.length := by omega
      subst hk2
      have hrow : ∀ j, j < l0.length → wr.cell? ⟨g, j, none⟩ = some (.int .i64 (j : Int)) ∧ wr.frozen? ⟨g, j, none⟩ = false := by
        intro j hj
        obtain ⟨z0, z1, _⟩ := int_row HO.out (fillL_len _ _ (Nat.le_refl _)) j hj 0
        rw [fillL_at _ _ (Nat.le_refl _) j hj] at z0
        exact ⟨z0, z1⟩
      have hgl2 : g < wr.heap.size := Kd.R_lt HO.out g (by simp [Value.ownBlock])
      have hsort := sort_pay l0 hpos hn w wr ad c0 w.heap.size g cap HB.out HR0.out ((blk_cell BX.out 0).trans rfl) NE.out GE.out hgl2 hrow
      have HS := Aside0.mk hsort
      have cb : wr.cell? ⟨w.heap.size, 0, none⟩ = some (.slice (some ad) l0.length c0) := (blk_cell BX.out 0).trans rfl
      have hcl : slices_CloneD.f l0 = some l0 := by unfold slices_CloneD.f; rw [if_pos (by omega)]
      have HCL := Aside0.mk hcl
      have hol : (ordP l0).length = l0.length := ordP_len l0 hpos
      have HOL := Aside0.mk hol
      clear hsort hrow HO hcl hgl2 hol
      go_wp2_with (first
        | (go_at_call 28; with_reducible refine HS.out.mono ?_; rintro e w5 ⟨rfl, hb5, hs5, cb5, hrow5⟩; have ROW := Aside0.mk hrow5; have HB5 := Aside0.mk hb5; clear HB hrow5 hb5 hs5)
        | (go_at_call 31; with_reducible refine (slices_CloneD.calls (some ad) c0 l0 l0 _ (Kd.C_below HR0.out HB5.out) HC0.out HCL.out).mono ?_; rintro e w6 ⟨v9, rfl, ho, hb⟩; obtain ⟨h, cap2, hv9, hh1, hh2, cells, hcc⟩ := Kd.R_form ho hpos; subst hv9; have HO := Aside0.mk (Kd.R_lower ho HB5.out.size); have HH := Aside0.mk hh1; have HB := Aside0.mk (below_step HB5.out hb); have HB56 := Aside0.mk hb; clear ho hb hh1 hcc))
      have NHG := Aside0.mk (by have h1 := World.block_lt_of_cell? w5 _ (ROW.out 0 (by rw [HOL.out]; exact hpos)); have h2 := HH.out; simp only at h1; omega : g ≠ h)
      have GH := Aside0.mk (Nat.le_trans HB5.out.size HH.out)
      have ROW6 := Aside0.mk (fun j hj => (HB56.out.cell (World.block_lt_of_cell? w5 _ (ROW.out j hj))).trans (ROW.out j hj) : ∀ j, j < (ordP l0).length → w6.cell? ⟨g, j, none⟩ = some (.int .i64 ((ordP l0).getD j 0 : Nat)))
      clear ROW HB5 HB56 HH cb BX
      go_loopw [1, 41] (fun v1 v41 wr' => ∃ (j : Nat) (out : List S39) (c : Int), j ≤ l0.length ∧ v41 = .int .i64 j ∧ v1 = .int .i64 c ∧ Aside0 (((ordP l0).take j).foldl payStep (l0, a1) = (out, c)) ∧ Aside0 (Kd.R k39 39 wr' w.heap.size (fun _ => True) (.slice (some ⟨h, 0, none⟩) l0.length cap2) out) ∧ Aside0 (∀ j, j < (ordP l0).length → wr'.cell? ⟨g, j, none⟩ = some (.int .i64 ((ordP l0).getD j 0 : Nat))) ∧ Aside0 (Below w.heap.size w wr')) (fun _ v41 _ => l0.length - (intOf v41).toNat)
      case atStart => exact ⟨0, l0, a1, Nat.zero_le _, rfl, rfl, ⟨rfl⟩, HO, ROW6, HB⟩
      case round =>
        clear HB HO ROW6
        obtain ⟨j, out, c, hj, rfl, rfl, HF, HO, ROW, HB⟩ := hrel
        by_cases hjl : j < l0.length
        · have q0 : 0 ≤ (j : Int) := by omega
          have q1 : (j : Int) < (l0.length : Int) := by omega
          have qb := decide_eq_true q1
          have hj2 : j < (ordP l0).length := by rw [HOL.out]; exact hjl
          have hc0 := ROW.out j hj2
          have hil := ordP_lt l0 j hj2
          have hstep := fold_take (ordP l0) j hj2 (l0, a1)
          rw [HF.out] at hstep
          generalize hi_ : (ordP l0).getD j 0 = i at hc0 hil hstep
          have w1_ : wrap64 ((j : Int) + 1) = ((j + 1 : Nat) : Int) := by unfold wrap64; omega
          have W1 := Aside0.mk w1_
          clear w1_ hi_
          have p0 : 0 ≤ (i : Int) := by omega
          have p1 : (i : Int) < (l0.length : Int) := by omega
          have pb := decide_eq_true p1
          obtain ⟨z0, z1, _⟩ := debt_row HO.out i hil 0
          generalize hx : out.getD i z39 = x at z0
          have HST := Aside0.mk hstep
          have HX := Aside0.mk hx
          clear hstep hx
          replace q0 := eq_true q0
          replace q1 := eq_true q1
          replace p0 := eq_true p0
          replace p1 := eq_true p1
          go_wp2
          refine ⟨⟨j + 1, out.set i ⟨x.f0, x.f1, x.f2, wrap64 (x.f3 - if x.f3 < c then x.f3 else c)⟩, wrap64 (c - if x.f3 < c then x.f3 else c), by omega, (by first | exact congrArg (Value.int .i64) W1.out | exact congrArg (Value.int .i64) (by omega : (j : Int) + 1 = ((j + 1 : Nat) : Int))), rfl, ⟨?_⟩, ⟨?_⟩, ⟨fun j' hj' => ?_⟩, ⟨below_set HB.out GH.out⟩⟩, ?_⟩
          · rw [HST.out]
            unfold payStep
            simp only [HX.out]
          · have hh := (debt_row HO.out i hil (wrap64 (x.f3 - if x.f3 < c then x.f3 else c))).2.2
            rw [HX.out] at hh
            exact hh
          · exact (old_cell _ (Below.heap_setCell wr _ _ _ NHG.out)).trans (ROW.out j' hj')
          · (try simp only [intOf_i64So])
            first | rw [W1.out] | rw [show (j : Int) + 1 = ((j + 1 : Nat) : Int) by omega]
            exact meas_lt2 _ _ hjl
        · have hj3 : j = l0.length := by omega
          have hF := HF.out
          rw [List.take_of_length_le (by rw [HOL.out]; omega)] at hF
          have h1 : (payF l0 a1).1 = out := by unfold payF; rw [hF]
          have h2 : (payF l0 a1).2 = c := by unfold payF; rw [hF]
          have P1 := Aside0.mk h1
          have P2 := Aside0.mk h2
          have qb : decide ((j : Int) < (l0.length : Int)) = false := decide_eq_false (by omega)
          clear HF hF ROW h1 h2
          go_wp2
          go_ret3
          exact ⟨_, by rw [P2.out]; rfl, by rw [P1.out]; exact HO.out, HB.out⟩
set_option maxHeartbeats 2000000 in
theorem sort_none1 (p : Option Addr) (cap : Nat) (fv : Value) (W : World) : Calls Tryz.prog 28 #[.slice p 0 cap, fv] W fun e w' => e = .returned (.tuple #[]) ∧ w' = W := by
  have hins : ∀ W, Calls Tryz.prog 84 #[.slice p 0 cap, .int .i64 0, .int .i64 0, fv] W fun e w' => e = .returned (.tuple #[]) ∧ w' = W := by
    intro W
    go_enter Tryz.func84, Tryz.ntmps84
    go_wp2
    refine wp_loop_rounds 1 ?_
    rw [rounds_succ]
    go_wp2
    go_end0
    exact ⟨rfl, rfl⟩
  have HI := Lib.hid hins
  clear hins
  have hpdq : ∀ (lim : Int) W, Calls Tryz.prog 53 #[.slice p 0 cap, .int .i64 0, .int .i64 0, .int .i64 lim, fv] W fun e w' => e = .returned (.tuple #[]) ∧ w' = W := by
    intro lim W
    go_enter Tryz.func53, Tryz.ntmps53
    go_wp2
    refine wp_loop_rounds 1 ?_
    rw [rounds_succ]
    go_wp2_with (go_at_call 84; refine (HI.out _).mono ?_; rintro e w' ⟨rfl, rfl⟩)
    (try simp only [Exit.inBlock, Exit.then])
    refine bodyPost_ret (results_none rfl _ _ _) rfl ?_
    exact ⟨rfl, rfl⟩
  have HP := Lib.hid hpdq
  clear hpdq
  have hlen := Tryz.bits_Len 0 W (by omega) (by omega)
  have HL := Lib.hid hlen
  clear hlen
  go_enter Tryz.func28, Tryz.ntmps28
  go_wp2_with (first
    | (go_at_call 54; refine HL.out.mono ?_; rintro e w' ⟨rfl, rfl⟩)
    | (go_at_call 53; refine (HP.out _ _).mono ?_; rintro e w' ⟨rfl, rfl⟩))
  go_end0
  exact ⟨rfl, rfl⟩
set_option maxHeartbeats 8000000 in
set_option maxRecDepth 100000 in
theorem pay_none (A0 : Option Addr) (c0 : Nat) (a1 : Int) (w : World) (hr0 : Kd.C k39 w A0 0 []) (hb1 : setoff_between.f a1 0 1000000000 = some true) :
    Calls Tryz.prog 10 #[.slice A0 0 c0, .int .i64 a1] w fun e w' => ∃ v0_ : Value, e = .returned (.tuple #[v0_, .int .i64 a1, .int .i64 0]) ∧ Kd.R k39 39 w' w.heap.size (fun _ => True) v0_ [] ∧ Below w.heap.size w w' := by
  have HR0 := Aside0.mk hr0
  have HB1 := Aside0.mk hb1
  have hv : setoff_Valid.f ([] : List S39) = some true := by unfold setoff_Valid.f; simp [vD]
  have HV := Aside0.mk hv
  have hcl : slices_CloneD.f ([] : List S39) = some [] := by unfold slices_CloneD.f; simp
  have HCL := Aside0.mk hcl
  clear hr0 hb1 hv hcl
  have HB := Aside0.mk (Below.refl w.heap.size w)
  go_enter Tryz.func10, Tryz.ntmps10
  go_upto_region 3 with (first
    | (go_at_call 12; refine (setoff_Valid.calls A0 c0 [] true _ (Kd.C_alloc HR0.out _) (Nat.zero_le _) HV.out).mono ?_; rintro e w1 ⟨rfl, hb⟩; have bx_ : w1.heap[w.heap.size]? = some (.cells #[.slice A0 0 c0] 22 (0, 0)) := blk_below (heap_alloc_new w _) hb; have hb2 : Below w.heap.size w w1 := below_step (below_alloc HB.out _) hb; clear HB hb; have HB := Aside0.mk hb2; have BX := Aside0.mk bx_; have cb : w1.cell? ⟨w.heap.size, 0, none⟩ = some (.slice A0 0 c0) := (blk_cell BX.out 0).trans rfl; clear hb2 bx_)
    | (go_at_call 27; with_reducible refine (setoff_between.calls _ _ _ true _ HB1.out).mono ?_; rintro e w2 ⟨rfl, m2, rfl⟩))
  go_wp2_with (first
    | ((with_reducible refine gate_dst (N := 23) rfl ?_); refine Kd.R_make (Kd.int .i64) (w0 := w) w.heap.size 3 rfl (N := 23) rfl 52 (.tmp 22) (.tmp 22) rfl (0 : Int) rfl rfl Tryz.underlying52 (.int .i64 0) 8 (by kernel_rfl) rfl (by decide) (by omega) (0 : Int) (ok := fun _ => True) (okp := fun _ => True) rfl (fun _ h => h) trivial (by omega) (by simp) (pw_below_drewN HB.out _) HB.out.size ?_; intro v7 w4 ho hb hg hnew; obtain ⟨A7, c7, hv7⟩ := Kd.R_slice ho; simp only [Int.toNat_zero, List.replicate_zero, List.length_nil] at hv7; subst hv7; have bx_ : w4.heap[w.heap.size]? = some (.cells #[.slice A0 0 c0] 22 (0, 0)) := blk_grown (blk_drewN BX.out m2) hg (by simp); clear HB BX cb hg hnew ho; have HB := Aside0.mk hb; have BX := Aside0.mk bx_; have cb : w4.cell? ⟨w.heap.size, 0, none⟩ = some (.slice A0 0 c0) := (blk_cell BX.out 0).trans rfl; clear hb bx_))
  refine wp_loop_rounds 1 ?_
  rw [rounds_succ]
  go_wp2_with (first
    | (go_at_call 28; refine (sort_none1 _ _ _ _).mono ?_; rintro e w5 ⟨rfl, rfl⟩)
    | (go_at_call 31; refine (slices_CloneD.calls A0 c0 [] [] _ (Kd.C_below HR0.out HB.out) (Nat.zero_le _) HCL.out).mono ?_; rintro e w6 ⟨v9, rfl, ho, hb⟩; have HO := Aside0.mk (Kd.R_lower ho HB.out.size); have HB2 := Aside0.mk (below_step HB.out hb); clear ho hb))
  refine wp_loop_rounds 1 ?_
  rw [rounds_succ]
  go_wp2
  go_ret3
  exact ⟨_, rfl, HO.out, HB2.out⟩
set_option maxHeartbeats 8000000 in
set_option maxRecDepth 100000 in
theorem pay_bad0 (A0 : Option Addr) (c0 : Nat) (l0 : List S39) (a1 : Int) (w : World) (hr0 : Kd.C k39 w A0 l0.length l0) (hc0 : l0.length ≤ c0) (hv : setoff_Valid.f l0 = some false) :
    Calls Tryz.prog 10 #[.slice A0 l0.length c0, .int .i64 a1] w fun e w' => ∃ v0_ : Value, e = .returned (.tuple #[v0_, .int .i64 0, .int .i64 1]) ∧ Kd.R k39 39 w' w.heap.size (fun _ => True) v0_ [] ∧ Below w.heap.size w w' := by
  have HR0 := Aside0.mk hr0
  have HC0 := Aside0.mk hc0
  have HV := Aside0.mk hv
  clear hr0 hc0 hv
  have HB := Aside0.mk (Below.refl w.heap.size w)
  go_enter Tryz.func10, Tryz.ntmps10
  go_wp2_with (first
    | (go_at_call 12; with_reducible refine (setoff_Valid.calls A0 c0 l0 false _ (Kd.C_alloc HR0.out _) HC0.out HV.out).mono ?_; rintro e w1 ⟨rfl, hb⟩; have hb2 : Below w.heap.size w w1 := below_step (below_alloc HB.out _) hb; clear HB hb; have HB := Aside0.mk hb2; clear hb2))
  go_ret3
  exact ⟨_, rfl, Kd.R_nil _ _ _ _ _, by with_reducible repeat first | exact HB.out | apply pw_below_drewN | apply below_drew1⟩
set_option maxHeartbeats 8000000 in
set_option maxRecDepth 100000 in
theorem pay_bad1 (A0 : Option Addr) (c0 : Nat) (l0 : List S39) (a1 : Int) (w : World) (hr0 : Kd.C k39 w A0 l0.length l0) (hc0 : l0.length ≤ c0) (hv : setoff_Valid.f l0 = some true) (hb1 : setoff_between.f a1 0 1000000000 = some false) :
    Calls Tryz.prog 10 #[.slice A0 l0.length c0, .int .i64 a1] w fun e w' => ∃ v0_ : Value, e = .returned (.tuple #[v0_, .int .i64 0, .int .i64 1]) ∧ Kd.R k39 39 w' w.heap.size (fun _ => True) v0_ [] ∧ Below w.heap.size w w' := by
  have HR0 := Aside0.mk hr0
  have HC0 := Aside0.mk hc0
  have HV := Aside0.mk hv
  have HB1 := Aside0.mk hb1
  clear hr0 hc0 hv hb1
  have HB := Aside0.mk (Below.refl w.heap.size w)
  go_enter Tryz.func10, Tryz.ntmps10
  go_wp2_with (first
    | (go_at_call 12; with_reducible refine (setoff_Valid.calls A0 c0 l0 true _ (Kd.C_alloc HR0.out _) HC0.out HV.out).mono ?_; rintro e w1 ⟨rfl, hb⟩; have hb2 : Below w.heap.size w w1 := below_step (below_alloc HB.out _) hb; clear HB hb; have HB := Aside0.mk hb2; clear hb2)
    | (go_at_call 27; with_reducible refine (setoff_between.calls _ _ _ false _ HB1.out).mono ?_; rintro e w2 ⟨rfl, m2, rfl⟩))
  go_ret3
  exact ⟨_, rfl, Kd.R_nil _ _ _ _ _, by with_reducible repeat first | exact HB.out | apply pw_below_drewN | apply below_drew1⟩
def setoff_Pay.f (l0 : List S39) (a1 : Int) : Option (List S39 × Int × Int) := if l0.length < 4398046511104 ∧ l0.all (fun x => inI x.f0) = true then (if vD l0 [] = true ∧ l0.length ≤ 100 ∧ 0 ≤ a1 ∧ a1 ≤ 1000000000 then some ((payF l0 a1).1, (payF l0 a1).2, 0) else some ([], 0, 1)) else none
theorem setoff_Pay.calls (A0 : Option Addr) (c0 : Nat) (l0 : List S39) (a1 : Int) (r1 : List S39) (r2 : Int) (r3 : Int) (w : World) (hr0 : Kd.C k39 w A0 l0.length l0) (hc0 : l0.length ≤ c0) (h : setoff_Pay.f l0 a1 = some (r1, r2, r3)) :
    Calls Tryz.prog 10 #[.slice A0 l0.length c0, .int .i64 a1] w fun e w' => ∃ v0_ : Value, e = .returned (.tuple #[v0_, .int .i64 r2, .int .i64 r3]) ∧ Kd.R k39 39 w' w.heap.size (fun _ => True) v0_ r1 ∧ Below w.heap.size w w' := by
  unfold setoff_Pay.f at h
  split at h
  case isFalse => exact absurd h (by simp)
  rename_i hg
  have hvf : setoff_Valid.f l0 = some (vD l0 [] && decide (l0.length ≤ 100)) := by unfold setoff_Valid.f; rw [if_pos ⟨by omega, hg.2⟩]
  split at h
  · rename_i hc
    obtain ⟨c1, c2, c3, c4⟩ := hc
    simp only [Option.some.injEq, Prod.mk.injEq] at h
    obtain ⟨rfl, rfl, rfl⟩ := h
    rw [c1, decide_eq_true c2] at hvf
    have hb1 : setoff_between.f a1 0 1000000000 = some true := by rw [between_f, decide_eq_true c3, decide_eq_true c4]; rfl
    cases l0 with
    | nil =>
      have h0 : ordP ([] : List S39) = [] := by unfold ordP sortP; rfl
      have h1 : (payF [] a1) = ([], a1) := by unfold payF; rw [h0]; rfl
      rw [h1]
      exact pay_none A0 c0 a1 w hr0 hb1
    | cons x t =>
      obtain ⟨ad, e, _⟩ := at_T39 hr0 0 (by omega) (by simp)
      subst e
      exact pay_main ad c0 (x :: t) a1 w hr0 hc0 hvf hb1 (by simp) c2
  · rename_i hc
    simp only [Option.some.injEq, Prod.mk.injEq] at h
    obtain ⟨rfl, rfl, rfl⟩ := h
    by_cases hv : (vD l0 [] && decide (l0.length ≤ 100)) = true
    · rw [hv] at hvf
      obtain ⟨v1, v2⟩ := (Bool.and_eq_true _ _).mp hv
      refine pay_bad1 A0 c0 l0 a1 w hr0 hc0 hvf ?_
      rw [between_f]
      congr 1
      rw [Bool.eq_false_iff]
      intro hh
      rw [Bool.and_eq_true, decide_eq_true_eq, decide_eq_true_eq] at hh
      exact hc ⟨v1, of_decide_eq_true v2, hh.1, hh.2⟩
    · rw [Bool.eq_false_iff.mpr hv] at hvf
      exact pay_bad0 A0 c0 l0 a1 w hr0 hc0 hvf
end

/-! ### setoff_open: function 35 -/
def setoff_open.l0 : Nat → Int → List (S39) → Int → Int → Option (Int × Bool)
  | 0, _, _, _, _ => none
  | k + 1, x4, x7, x8, x9 => if x9 < x8 then (if 0 ≤ x9 then (if x9 < (x7.length : Int) then (setoff_open.l0 k (wrap64 (x4 + ((rd_T39 x7 x9).f3))) x7 x8 (wrap64 (x9 + 1))) else (none)) else (none)) else (some (x4, decide (x4 ≤ 1000000000)))
def setoff_open.f (k : Nat) (l0 : List (S39)) : Option (Int × Bool) := setoff_open.l0 k 0 l0 (l0.length : Int) 0
theorem setoff_open.mono_l : ∀ k, (∀ y0 y1 y2 y3, LeO (setoff_open.l0 k y0 y1 y2 y3) (setoff_open.l0 (k + 1) y0 y1 y2 y3))
  | 0 => fun _ _ _ _ r h => by simp [setoff_open.l0] at h
  | k + 1 => by
    have ih0 := setoff_open.mono_l k
    · intro y0 y1 y2 y3
      unfold setoff_open.l0
      repeat' first
      | (with_reducible exact ih0 _ _ _ _)
      | (with_reducible exact LeO.refl _)
      | (with_reducible exact LeO.none _)
      | (with_reducible refine LeO.ite ?_ ?_)
      | (with_reducible refine LeO.bind ?_ (fun _ => ?_))
      | exact ih0 _ _ _ _
      | exact LeO.none _
      | refine LeO.ite ?_ ?_
      | refine LeO.bind ?_ (fun _ => ?_)
theorem setoff_open.mono : ∀ a0 k, LeO (setoff_open.f k a0) (setoff_open.f (k + 1) a0) := by
  intro a0 k
  have ih0 := setoff_open.mono_l k
  unfold setoff_open.f
  repeat' first
      | (with_reducible exact ih0 _ _ _ _)
      | (with_reducible exact LeO.refl _)
      | (with_reducible exact LeO.none _)
      | (with_reducible refine LeO.ite ?_ ?_)
      | (with_reducible refine LeO.bind ?_ (fun _ => ?_))
      | exact ih0 _ _ _ _
      | exact LeO.none _
      | refine LeO.ite ?_ ?_
      | refine LeO.bind ?_ (fun _ => ?_)
set_option maxHeartbeats 8000000 in
set_option maxRecDepth 100000 in
theorem setoff_open.calls (k : Nat) (A0 : Option Addr) (c0 : Nat) (l0 : List (S39)) (r1 : Int) (r2 : Bool) (w : World) (hr0 : Kd.C k39 w A0 l0.length l0) (hc0 : l0.length ≤ c0) (h : setoff_open.f k l0 = some (r1, r2)) :
    Calls Tryz.prog 35 #[.slice A0 l0.length c0] w fun e w' => e = .returned (.tuple #[.int .i64 r1, .bool r2]) ∧ Below w.heap.size w w' := by
  have hu39 := Tryz.underlying39
  have HR0 := Aside0.mk hr0
  have HC0 := Aside0.mk hc0
  clear hr0 hc0
  have HB := Aside0.mk (Below.refl w.heap.size w)
  have H : (setoff_open.l0 k 0 l0 (l0.length : Int) 0) = some (r1, r2) := h
  clear h
  have H' := Aside0.mk H
  clear H
  go_enter Tryz.func35, Tryz.ntmps35
  go_wp2
  go_loopg [4, 9] k (fun kq v4 v9 w' => ∃ (x4_1 : Int) (x9_1 : Int), v4 = .int .i64 x4_1 ∧ v9 = .int .i64 x9_1 ∧ Aside0 (setoff_open.l0 kq x4_1 l0 (l0.length : Int) x9_1 = some (r1, r2)) ∧ Aside0 (kq ≤ k) ∧ Aside0 (Below w.heap.size w w'))
  case atStart => exact ⟨(0), (0), (by first | rfl | (simp; done) | (simp [*]; done)), (by first | rfl | (simp; done) | (simp [*]; done)), H', ⟨Nat.le_refl _⟩, ⟨by repeat (first | (with_reducible first | exact HB.out | apply below_alloc | apply pw_below_drewN | apply below_drew1) | exact HB.out)⟩⟩
  case round =>
    clear H'
    obtain ⟨x4_1, x9_1, rfl, rfl, HA, HK1, HB⟩ := hrel
    cases gk with
    | zero => exact absurd HA.out (by simp [setoff_open.l0])
    | succ k1 =>
      have H := HA.out
      clear HA
      simp only [setoff_open.l0] at H
      by_cases c2 : x9_1 < (l0.length : Int)
      · rw [if_pos c2] at H
        have c2b0 : decide (x9_1 < (l0.length : Int)) = true := decide_eq_true c2
        clear c2
        by_cases c3 : 0 ≤ x9_1
        · rw [if_pos c3] at H
          have c3b0 : decide (0 ≤ x9_1) = true := decide_eq_true c3
          clear c3
          by_cases c4 : x9_1 < (l0.length : Int)
          · rw [if_pos c4] at H
            have c4b0 : decide (x9_1 < (l0.length : Int)) = true := decide_eq_true c4
            clear c4
            have H' := Aside0.mk H
            clear H
            have p101 : 0 ≤ (x9_1 : Int) := of_decide_eq_true (by first | (with_reducible assumption) | assumption)
            have q101 : x9_1 < (l0.length : Int) := of_decide_eq_true (by first | (with_reducible assumption) | assumption)
            obtain ⟨ad101, e101, hx101_0, hx101_1, hx101_2, hx101_3⟩ := at_T39 HR0.out x9_1 p101 q101
            cases e101
            replace hx101_0 := (HB.out.cell (World.block_lt_of_cell? w _ hx101_0)).trans hx101_0
            replace hx101_1 := (HB.out.cell (World.block_lt_of_cell? w _ hx101_1)).trans hx101_1
            replace hx101_2 := (HB.out.cell (World.block_lt_of_cell? w _ hx101_2)).trans hx101_2
            replace hx101_3 := (HB.out.cell (World.block_lt_of_cell? w _ hx101_3)).trans hx101_3
            replace p101 := eq_true p101
            replace q101 := eq_true q101
            go_wp2_with (first | ((with_reducible refine gate_dst (N := 6) rfl ?_); refine box_event ?hg (N := 6) ?hd (cs := #[.int .i64 0, .int .i64 0, .int .i64 0, .int .i64 0]) (t := 39) ?hr ?_; (case hd => rfl); (case hg => rfl); (case hr => first | (go_simp; done) | (go_simp; rfl)); intro gb102 hg w5 hbox hb; have n0_ := Aside0.mk (below_step (by repeat (first | (with_reducible first | exact HB.out | apply below_alloc | apply pw_below_drewN | apply below_drew1) | exact HB.out)) hb); have n1_ := Aside0.mk (hbox); have n2_ := Aside0.mk ((by rw [hg]; exact (below_size (by repeat (first | (with_reducible first | exact HB.out | apply below_alloc | apply pw_below_drewN | apply below_drew1) | exact HB.out))) : w.heap.size ≤ gb102)); have n3_ := Aside0.mk ((by rw [hg]; exact (below_size (by repeat (first | (with_reducible first | exact HB.out | apply below_alloc | apply pw_below_drewN | apply below_drew1) | exact HB.out))) : w.heap.size ≤ gb102)); clear HB; have HB := n0_; have BK102 := n1_; have GW102 := n2_; have GE102 := n3_; clear n0_ n1_ n2_ n3_; clear hb hbox hg; have hcz6_0 : w5.cell? ⟨gb102, 0, none⟩ = some (.int .i64 0) := (blk_cell BK102.out 0).trans rfl; have hcz6_1 : w5.cell? ⟨gb102, 1, none⟩ = some (.int .i64 0) := (blk_cell BK102.out 1).trans rfl; have hcz6_2 : w5.cell? ⟨gb102, 2, none⟩ = some (.int .i64 0) := (blk_cell BK102.out 2).trans rfl; have hcz6_3 : w5.cell? ⟨gb102, 3, none⟩ = some (.int .i64 0) := (blk_cell BK102.out 3).trans rfl; have hfz6_0 := blk_frozen BK102.out 0; have hfz6_1 := blk_frozen BK102.out 1; have hfz6_2 := blk_frozen BK102.out 2; have hfz6_3 := blk_frozen BK102.out 3))
            go_roundg k1
            case measure => have := HK1.out; omega
            case rel => exact ⟨(wrap64 (x4_1 + ((rd_T39 l0 x9_1).f3))), (wrap64 (x9_1 + 1)), (by first | rfl | (simp; done) | (simp [*]; done)), (by first | rfl | (simp; done) | (simp [*]; done)), H', ⟨by have := HK1.out; omega⟩, ⟨by repeat (first | (with_reducible first | exact HB.out | apply below_alloc | apply pw_below_drewN | apply below_drew1 | refine below_set ?_ GE102.out) | exact HB.out)⟩⟩
          · rw [if_neg c4] at H
            exact absurd H (by simp)
        · rw [if_neg c3] at H
          exact absurd H (by simp)
      · rw [if_neg c2] at H
        have c2b0 : decide (x9_1 < (l0.length : Int)) = false := decide_eq_false c2
        clear c2
        simp only [Option.some.injEq, Prod.mk.injEq] at H
        obtain ⟨rfl, rfl⟩ := H
        go_wp2
        go_ret2
        exact ⟨by first | rfl | (simp [errW_none, errW_some] <;> rfl) | (simp [*, errW_none, errW_some] <;> rfl), by repeat (first | (with_reducible first | exact HB.out | apply below_alloc | apply pw_below_drewN | apply below_drew1) | exact HB.out)⟩

end Go.Proofs.YtnkgnjklkocojaaGreatDoor.X
