-- Written by a program of mine (wip/tools/xprint.py) over the kit's print.py: printed functions and hand-proved ones side by side.
import Derived.Test.YtnkgnjklkocojaaGreatDoorXx0
import Derived.Test.YtnkgnjklkocojaaGreatDoorXx9
import Derived.Test.YtnkgnjklkocojaaGreatDoorXx11
namespace Go.Proofs.YtnkgnjklkocojaaGreatDoor.X
open Go.RowKit Go.Proofs.YtnkgnjklkocojaaGreatDoorW.PrintWords Go.Proofs.YtnkgnjklkocojaaGreatDoorW.PrintLast Go.Proofs.YtnkgnjklkocojaaGreatDoorW.PrintMore
attribute [local go_sem] max2_int min2_int max_two min_two max_three min_three max_four min_four   -- for this text's walks alone
set_option linter.unusedVariables false
set_option linter.unusedSimpArgs false

/-! ### calendar_Date: function 52 -/
mutual
def calendar_Date.j0 : Nat → Int → Int → Int → Option (Int × Int × Int × Int)
  | 0, _, _, _ => none
  | k + 1, x2, x3, x6 => calendar_Date.l0 k x2 x3 x6
def calendar_Date.l0 : Nat → Int → Int → Int → Option (Int × Int × Int × Int)
  | 0, _, _, _ => none
  | k + 1, x2, x3, x6 => (calendar_length.f x2 x3).bind fun t187 => (if x6 ≥ t187 then ((calendar_length.f x2 x3).bind fun t188 => (calendar_Date.l0 k x2 (wrap64 (x3 + 1)) (wrap64 (x6 - t188)))) else (some (x2, wrap64 (x3 + 1), wrap64 (x6 + 1), 0)))
end
def calendar_Date.f (k : Nat) (a0 : Int) : Option (Int × Int × Int × Int) := (calendar_valid.f a0).bind fun t186 => (if t186 = true then (if (Int.tmod a0 1461) ≥ 366 then (calendar_Date.j0 k (wrap64 ((wrap64 (2000 + (wrap64 (4 * (wrap64 (Int.tdiv a0 1461)))))) + (wrap64 (1 + (wrap64 (Int.tdiv (wrap64 ((Int.tmod a0 1461) - 366)) 365)))))) 0 (Int.tmod (wrap64 ((Int.tmod a0 1461) - 366)) 365)) else (calendar_Date.j0 k (wrap64 (2000 + (wrap64 (4 * (wrap64 (Int.tdiv a0 1461)))))) 0 (Int.tmod a0 1461))) else (some (0, 0, 0, 3)))
theorem calendar_Date.mono_l : ∀ k, (∀ y0 y1 y2, LeO (calendar_Date.j0 k y0 y1 y2) (calendar_Date.j0 (k + 1) y0 y1 y2)) ∧ (∀ y0 y1 y2, LeO (calendar_Date.l0 k y0 y1 y2) (calendar_Date.l0 (k + 1) y0 y1 y2))
  | 0 => ⟨fun _ _ _ r h => by simp [calendar_Date.j0] at h, fun _ _ _ r h => by simp [calendar_Date.l0] at h⟩
  | k + 1 => by
    obtain ⟨ih0, ih1⟩ := calendar_Date.mono_l k
    refine ⟨?_, ?_⟩
    · intro y0 y1 y2
      unfold calendar_Date.j0
      repeat' first
      | (with_reducible exact ih0 _ _ _)
      | (with_reducible exact ih1 _ _ _)
      | (with_reducible exact LeO.refl _)
      | (with_reducible exact LeO.none _)
      | (with_reducible refine LeO.ite ?_ ?_)
      | (with_reducible refine LeO.bind ?_ (fun _ => ?_))
      | exact ih0 _ _ _
      | exact ih1 _ _ _
      | exact LeO.none _
      | refine LeO.ite ?_ ?_
      | refine LeO.bind ?_ (fun _ => ?_)
    · intro y0 y1 y2
      unfold calendar_Date.l0
      repeat' first
      | (with_reducible exact ih0 _ _ _)
      | (with_reducible exact ih1 _ _ _)
      | (with_reducible exact LeO.refl _)
      | (with_reducible exact LeO.none _)
      | (with_reducible refine LeO.ite ?_ ?_)
      | (with_reducible refine LeO.bind ?_ (fun _ => ?_))
      | exact ih0 _ _ _
      | exact ih1 _ _ _
      | exact LeO.none _
      | refine LeO.ite ?_ ?_
      | refine LeO.bind ?_ (fun _ => ?_)
theorem calendar_Date.mono : ∀ a0 k, LeO (calendar_Date.f k a0) (calendar_Date.f (k + 1) a0) := by
  intro a0 k
  obtain ⟨ih0, ih1⟩ := calendar_Date.mono_l k
  unfold calendar_Date.f
  repeat' first
      | (with_reducible exact ih0 _ _ _)
      | (with_reducible exact ih1 _ _ _)
      | (with_reducible exact LeO.refl _)
      | (with_reducible exact LeO.none _)
      | (with_reducible refine LeO.ite ?_ ?_)
      | (with_reducible refine LeO.bind ?_ (fun _ => ?_))
      | exact ih0 _ _ _
      | exact ih1 _ _ _
      | exact LeO.none _
      | refine LeO.ite ?_ ?_
      | refine LeO.bind ?_ (fun _ => ?_)
set_option maxHeartbeats 8000000 in
set_option maxRecDepth 100000 in
theorem calendar_Date.calls (k : Nat) (a0 : Int) (r1 : Int) (r2 : Int) (r3 : Int) (r4 : Int) (w : World) (hG : GL w) (h : calendar_Date.f k a0 = some (r1, r2, r3, r4)) :
    Calls Tryz.prog 52 #[.int .i64 a0] w fun e w' => e = .returned (.tuple #[.int .i64 r1, .int .i64 r2, .int .i64 r3, .int .i64 r4]) ∧ Drawn0 w w' := by
  have HG := Aside0.mk hG
  clear hG
  have H : ((calendar_valid.f a0).bind fun t186 => (if t186 = true then (if (Int.tmod a0 1461) ≥ 366 then (calendar_Date.j0 k (wrap64 ((wrap64 (2000 + (wrap64 (4 * (wrap64 (Int.tdiv a0 1461)))))) + (wrap64 (1 + (wrap64 (Int.tdiv (wrap64 ((Int.tmod a0 1461) - 366)) 365)))))) 0 (Int.tmod (wrap64 ((Int.tmod a0 1461) - 366)) 365)) else (calendar_Date.j0 k (wrap64 (2000 + (wrap64 (4 * (wrap64 (Int.tdiv a0 1461)))))) 0 (Int.tmod a0 1461))) else (some (0, 0, 0, 3)))) = some (r1, r2, r3, r4) := h
  clear h
  replace H := Option.bind_eq_some_iff.mp H
  obtain ⟨t186, A20, H⟩ := H
  replace H : (if t186 = true then (if (Int.tmod a0 1461) ≥ 366 then (calendar_Date.j0 k (wrap64 ((wrap64 (2000 + (wrap64 (4 * (wrap64 (Int.tdiv a0 1461)))))) + (wrap64 (1 + (wrap64 (Int.tdiv (wrap64 ((Int.tmod a0 1461) - 366)) 365)))))) 0 (Int.tmod (wrap64 ((Int.tmod a0 1461) - 366)) 365)) else (calendar_Date.j0 k (wrap64 (2000 + (wrap64 (4 * (wrap64 (Int.tdiv a0 1461)))))) 0 (Int.tmod a0 1461))) else (some (0, 0, 0, 3))) = some (r1, r2, r3, r4) := H
  have A2 := Aside0.mk A20
  clear A20
  by_cases c3 : t186 = true
  · subst c3
    have H1 : (if (Int.tmod a0 1461) ≥ 366 then (calendar_Date.j0 k (wrap64 ((wrap64 (2000 + (wrap64 (4 * (wrap64 (Int.tdiv a0 1461)))))) + (wrap64 (1 + (wrap64 (Int.tdiv (wrap64 ((Int.tmod a0 1461) - 366)) 365)))))) 0 (Int.tmod (wrap64 ((Int.tmod a0 1461) - 366)) 365)) else (calendar_Date.j0 k (wrap64 (2000 + (wrap64 (4 * (wrap64 (Int.tdiv a0 1461)))))) 0 (Int.tmod a0 1461))) = some (r1, r2, r3, r4) := by rw [if_pos rfl] at H; exact H
    clear H
    have H := H1
    clear H1
    have HC4 := Aside0.mk H
    clear H
    go_enter Tryz.func52, Tryz.ntmps52
    go_upto_if 17 with (first | ((with_reducible refine gate_callee (f := 82) rfl ?_); refine goesL_ (some 8) rfl rfl Tryz.func82 (by kernel_rfl) rfl #[.int .i64 a0] rfl (by (try simp only [List.map_toArray, List.map_cons, List.map_nil]); first | done | rfl | (simp only [List.length_drop, List.length_take]; rfl)) ?_; (with_reducible refine (calendar_valid.calls a0 true _ A2.out).mono ?_); rintro e w' ⟨rfl, ⟨nd, rfl⟩⟩; refine ⟨_, rfl, ?_⟩))
    (try simp only [Act.put, List.setIfInBounds_toArray, List.set_cons_zero, List.set_cons_succ])
    go_cut [2, 6] (fun v2 v6 wc => ∃ (kq : Nat) (x2_3 : Int) (x6_3 : Int), v2 = .int .i64 x2_3 ∧ v6 = .int .i64 x6_3 ∧ Aside0 (calendar_Date.j0 kq x2_3 0 x6_3 = some (r1, r2, r3, r4)) ∧ Aside0 (kq ≤ k) ∧ Drawn0 w wc)
    case first =>
      have H := HC4.out
      clear HC4
      by_cases c5 : (Int.tmod a0 1461) ≥ 366
      · rw [if_pos c5] at H
        have c5b0 : decide (366 ≤ (Int.tmod a0 1461)) = true := decide_eq_true c5
        clear c5
        (first | rw [c5b0] | (simp only [i64_w, i32_w]; rw [c5b0]) | skip)
        have H' := Aside0.mk H
        clear H
        go_wp2
        go_meet
        case rel => exact ⟨_, (wrap64 ((wrap64 (2000 + (wrap64 (4 * (wrap64 (Int.tdiv a0 1461)))))) + (wrap64 (1 + (wrap64 (Int.tdiv (wrap64 ((Int.tmod a0 1461) - 366)) 365)))))), (Int.tmod (wrap64 ((Int.tmod a0 1461) - 366)) 365), (by first | rfl | (simp; done) | (simp [*]; done)), (by first | rfl | (simp; done) | (simp [*]; done)), H', ⟨by first | omega | exact Nat.le_refl _⟩, by repeat (first | exact Drawn0.refl _ | apply Drawn0.step)⟩
      · rw [if_neg c5] at H
        have c5b0 : decide (366 ≤ (Int.tmod a0 1461)) = false := decide_eq_false c5
        clear c5
        (first | rw [c5b0] | (simp only [i64_w, i32_w]; rw [c5b0]) | skip)
        have H' := Aside0.mk H
        clear H
        go_wp2
        go_meet
        case rel => exact ⟨_, (wrap64 (2000 + (wrap64 (4 * (wrap64 (Int.tdiv a0 1461)))))), (Int.tmod a0 1461), (by first | rfl | (simp; done) | (simp [*]; done)), (by first | rfl | (simp; done) | (simp [*]; done)), H', ⟨by first | omega | exact Nat.le_refl _⟩, by repeat (first | exact Drawn0.refl _ | apply Drawn0.step)⟩
    case rest =>
      clear HC4
      try clear p2
      try clear c3
      try clear c5
      try clear c5b0
      obtain ⟨kq, x2_3, x6_3, rfl, rfl, HA, HJ3, ⟨mc3, rfl⟩⟩ := hcut
      cases kq with
      | zero => exact absurd HA.out (by simp [calendar_Date.j0])
      | succ kj3 =>
        have H := HA.out
        clear HA
        simp only [calendar_Date.j0] at H
        have H' := Aside0.mk H
        clear H
        go_wp2
        go_loopg [3, 6] kj3 (fun kq v3 v6 w' => ∃ (x3_2 : Int) (x6_2 : Int), v3 = .int .i64 x3_2 ∧ v6 = .int .i64 x6_2 ∧ Aside0 (calendar_Date.l0 kq x2_3 x3_2 x6_2 = some (r1, r2, r3, r4)) ∧ Aside0 (kq ≤ kj3) ∧ Drawn0 w w')
        case atStart => exact ⟨(0), (x6_3), (by first | rfl | (simp; done) | (simp [*]; done)), (by first | rfl | (simp; done) | (simp [*]; done)), H', ⟨Nat.le_refl _⟩, by repeat (first | exact Drawn0.refl _ | apply Drawn0.step)⟩
        case round =>
          clear H'
          try clear p2
          try clear c3
          try clear c5
          try clear c5b0
          try clear p2
          obtain ⟨x3_2, x6_2, rfl, rfl, HA, HK2, ⟨m2, rfl⟩⟩ := hrel
          cases gk with
          | zero => exact absurd HA.out (by simp [calendar_Date.l0])
          | succ k2 =>
            have H := HA.out
            clear HA
            simp only [calendar_Date.l0] at H
            replace H := Option.bind_eq_some_iff.mp H
            obtain ⟨t187, A60, H⟩ := H
            replace H : (if x6_2 ≥ t187 then ((calendar_length.f x2_3 x3_2).bind fun t188 => (calendar_Date.l0 k2 x2_3 (wrap64 (x3_2 + 1)) (wrap64 (x6_2 - t188)))) else (some (x2_3, wrap64 (x3_2 + 1), wrap64 (x6_2 + 1), 0))) = some (r1, r2, r3, r4) := H
            have A6 := Aside0.mk A60
            clear A60
            by_cases c7 : x6_2 ≥ t187
            · rw [if_pos c7] at H
              have c7b0 : decide (t187 ≤ x6_2) = true := decide_eq_true c7
              clear c7
              replace H := Option.bind_eq_some_iff.mp H
              obtain ⟨t188, A80, H⟩ := H
              replace H : (calendar_Date.l0 k2 x2_3 (wrap64 (x3_2 + 1)) (wrap64 (x6_2 - t188))) = some (r1, r2, r3, r4) := H
              have A8 := Aside0.mk A80
              clear A80
              have H' := Aside0.mk H
              clear H
              go_wp2_with (first | ((with_reducible refine gate_callee (f := 83) rfl ?_); refine goesL_ (some 30) rfl rfl Tryz.func83 (by kernel_rfl) rfl #[.int .i64 x2_3, .int .i64 x3_2] rfl (by (try simp only [List.map_toArray, List.map_cons, List.map_nil]); first | done | rfl | (simp only [List.length_drop, List.length_take]; rfl)) ?_; (with_reducible refine (calendar_length.calls x2_3 x3_2 t187 _ ?side1 A6.out).mono ?_); (case side1 => exact (by repeat (first | exact HG.out | apply GL.drewN | apply GL.drew))); rintro e w' ⟨rfl, ⟨nd, rfl⟩⟩; refine ⟨_, rfl, ?_⟩) | ((with_reducible refine gate_callee (f := 83) rfl ?_); refine goesL_ (some 35) rfl rfl Tryz.func83 (by kernel_rfl) rfl #[.int .i64 x2_3, .int .i64 x3_2] rfl (by (try simp only [List.map_toArray, List.map_cons, List.map_nil]); first | done | rfl | (simp only [List.length_drop, List.length_take]; rfl)) ?_; (with_reducible refine (calendar_length.calls x2_3 x3_2 t188 _ ?side1 A8.out).mono ?_); (case side1 => exact (by repeat (first | exact HG.out | apply GL.drewN | apply GL.drew))); rintro e w' ⟨rfl, ⟨nd, rfl⟩⟩; refine ⟨_, rfl, ?_⟩))
              go_roundg k2
              case measure => have := HJ3.out; have := HK2.out; omega
              case rel => exact ⟨(wrap64 (x3_2 + 1)), (wrap64 (x6_2 - t188)), (by first | rfl | (simp; done) | (simp [*]; done)), (by first | rfl | (simp; done) | (simp [*]; done)), H', ⟨by have := HJ3.out; have := HK2.out; omega⟩, by repeat (first | exact Drawn0.refl _ | apply Drawn0.step)⟩
            · rw [if_neg c7] at H
              have c7b0 : decide (t187 ≤ x6_2) = false := decide_eq_false c7
              clear c7
              simp only [Option.some.injEq, Prod.mk.injEq] at H
              obtain ⟨rfl, rfl, rfl, rfl⟩ := H
              go_wp2_with (first | ((with_reducible refine gate_callee (f := 83) rfl ?_); refine goesL_ (some 30) rfl rfl Tryz.func83 (by kernel_rfl) rfl #[.int .i64 x2_3, .int .i64 x3_2] rfl (by (try simp only [List.map_toArray, List.map_cons, List.map_nil]); first | done | rfl | (simp only [List.length_drop, List.length_take]; rfl)) ?_; (with_reducible refine (calendar_length.calls x2_3 x3_2 t187 _ ?side1 A6.out).mono ?_); (case side1 => exact (by repeat (first | exact HG.out | apply GL.drewN | apply GL.drew))); rintro e w' ⟨rfl, ⟨nd, rfl⟩⟩; refine ⟨_, rfl, ?_⟩))
              refine bodyPost_ret (results_list (rs := [.tmp 2, .tmp 3, .tmp 4, .tmp 5]) rfl (by simp) (.tmp (.tmp (.tmp (.tmp .nil))))) rfl ?_
              exact ⟨by first | rfl | (simp; done) | (simp [*]; done), by repeat (first | exact Drawn0.refl _ | apply Drawn0.step)⟩
  · replace c3 := Bool.eq_false_iff.mpr c3
    subst c3
    have H1 : (some (0, 0, 0, 3)) = some (r1, r2, r3, r4) := by rw [if_neg (show ¬ (false = true) by decide)] at H; exact H
    clear H
    have H := H1
    clear H1
    simp only [Option.some.injEq, Prod.mk.injEq] at H
    obtain ⟨rfl, rfl, rfl, rfl⟩ := H
    go_enter Tryz.func52, Tryz.ntmps52
    go_wp2_with (first | ((with_reducible refine gate_callee (f := 82) rfl ?_); refine goesL_ (some 8) rfl rfl Tryz.func82 (by kernel_rfl) rfl #[.int .i64 a0] rfl (by (try simp only [List.map_toArray, List.map_cons, List.map_nil]); first | done | rfl | (simp only [List.length_drop, List.length_take]; rfl)) ?_; (with_reducible refine (calendar_valid.calls a0 false _ A2.out).mono ?_); rintro e w' ⟨rfl, ⟨nd, rfl⟩⟩; refine ⟨_, rfl, ?_⟩))
    refine bodyPost_ret (results_list (rs := [.tmp 2, .tmp 3, .tmp 4, .tmp 5]) rfl (by simp) (.tmp (.tmp (.tmp (.tmp .nil))))) rfl ?_
    exact ⟨by first | rfl | (simp; done) | (simp [*]; done), by repeat (first | exact Drawn0.refl _ | apply Drawn0.step)⟩

/-! ### calendar_Month: function 25 -/
def calendar_Month.f (k : Nat) (a0 : Int) : Option (Int × Int) := (calendar_Date.f k a0).bind fun bt189 => (if bt189.2.2.2 = 0 then (some (wrap64 ((wrap64 ((wrap64 (12 * (wrap64 (bt189.1 - 2000)))) + bt189.2.1)) - 1), 0)) else (some (0, bt189.2.2.2)))
theorem calendar_Month.mono : ∀ a0 k, LeO (calendar_Month.f k a0) (calendar_Month.f (k + 1) a0) := by
  intro a0 k
  unfold calendar_Month.f
  repeat' first
      | (with_reducible exact calendar_Date.mono _ _)
      | (with_reducible exact LeO.refl _)
      | (with_reducible exact LeO.none _)
      | (with_reducible refine LeO.ite ?_ ?_)
      | (with_reducible refine LeO.bind ?_ (fun _ => ?_))
      | exact calendar_Date.mono _ _
      | exact LeO.none _
      | refine LeO.ite ?_ ?_
      | refine LeO.bind ?_ (fun _ => ?_)
set_option maxHeartbeats 8000000 in
set_option maxRecDepth 100000 in
theorem calendar_Month.calls (k : Nat) (a0 : Int) (r1 : Int) (r2 : Int) (w : World) (hG : GL w) (h : calendar_Month.f k a0 = some (r1, r2)) :
    Calls Tryz.prog 25 #[.int .i64 a0] w fun e w' => e = .returned (.tuple #[.int .i64 r1, .int .i64 r2]) ∧ Drawn0 w w' := by
  have HG := Aside0.mk hG
  clear hG
  have H : ((calendar_Date.f k a0).bind fun bt189 => (if bt189.2.2.2 = 0 then (some (wrap64 ((wrap64 ((wrap64 (12 * (wrap64 (bt189.1 - 2000)))) + bt189.2.1)) - 1), 0)) else (some (0, bt189.2.2.2)))) = some (r1, r2) := h
  clear h
  replace H := Option.bind_eq_some_iff.mp H
  obtain ⟨⟨t189, t190, t191, t192⟩, A20, H⟩ := H
  replace H : (if t192 = 0 then (some (wrap64 ((wrap64 ((wrap64 (12 * (wrap64 (t189 - 2000)))) + t190)) - 1), 0)) else (some (0, t192))) = some (r1, r2) := H
  have A2 := Aside0.mk A20
  clear A20
  by_cases c3 : t192 = 0
  · rw [if_pos c3] at H
    have c3b0 : (t192 == 0) = true := beq_iff_eq.mpr c3
    have c3b1 : (t192 != 0) = false := bne_eq_false_iff_eq.mpr c3
    clear c3
    simp only [Option.some.injEq, Prod.mk.injEq] at H
    obtain ⟨rfl, rfl⟩ := H
    go_enter Tryz.func25, Tryz.ntmps25
    go_wp2_with (first | ((with_reducible refine gate_callee (f := 52) rfl ?_); refine goesL_ (some 10) rfl rfl Tryz.func52 (by kernel_rfl) rfl #[.int .i64 a0] rfl (by (try simp only [List.map_toArray, List.map_cons, List.map_nil]); first | done | rfl | (simp only [List.length_drop, List.length_take]; rfl)) ?_; (with_reducible refine (calendar_Date.calls k a0 t189 t190 t191 t192 _ ?side1 A2.out).mono ?_); (case side1 => exact (by repeat (first | exact HG.out | apply GL.drewN | apply GL.drew))); rintro e w' ⟨rfl, ⟨nd, rfl⟩⟩; refine ⟨_, rfl, ?_⟩))
    go_ret2
    exact ⟨by first | rfl | (simp; done) | (simp [*]; done), by repeat (first | exact Drawn0.refl _ | apply Drawn0.step)⟩
  · rw [if_neg c3] at H
    have c3b0 : (t192 == 0) = false := beq_eq_false_iff_ne.mpr c3
    have c3b1 : (t192 != 0) = true := bne_iff_ne.mpr c3
    simp only [Option.some.injEq, Prod.mk.injEq] at H
    obtain ⟨rfl, rfl⟩ := H
    go_enter Tryz.func25, Tryz.ntmps25
    go_wp2_with (first | ((with_reducible refine gate_callee (f := 52) rfl ?_); refine goesL_ (some 10) rfl rfl Tryz.func52 (by kernel_rfl) rfl #[.int .i64 a0] rfl (by (try simp only [List.map_toArray, List.map_cons, List.map_nil]); first | done | rfl | (simp only [List.length_drop, List.length_take]; rfl)) ?_; (with_reducible refine (calendar_Date.calls k a0 t189 t190 t191 t192 _ ?side1 A2.out).mono ?_); (case side1 => exact (by repeat (first | exact HG.out | apply GL.drewN | apply GL.drew))); rintro e w' ⟨rfl, ⟨nd, rfl⟩⟩; refine ⟨_, rfl, ?_⟩))
    go_ret2
    exact ⟨by first | rfl | (simp; done) | (simp [*]; done), by repeat (first | exact Drawn0.refl _ | apply Drawn0.step)⟩

/-! ### calendar_firstOf: function 102 -/
def calendar_firstOf.f (a0 : Int) : Option (Int) := some (wrap64 ((wrap64 (365 * (wrap64 (a0 - 2000)))) + (wrap64 (Int.tdiv (wrap64 ((wrap64 (a0 - 2000)) + 3)) 4))))
set_option maxHeartbeats 8000000 in
set_option maxRecDepth 100000 in
theorem calendar_firstOf.calls (a0 : Int) (r : Int) (w : World) (h : calendar_firstOf.f a0 = some r) :
    Calls Tryz.prog 102 #[.int .i64 a0] w fun e w' => e = .returned (.int .i64 r) ∧ Drawn0 w w' := by
  have H : (some (wrap64 ((wrap64 (365 * (wrap64 (a0 - 2000)))) + (wrap64 (Int.tdiv (wrap64 ((wrap64 (a0 - 2000)) + 3)) 4))))) = some r := h
  clear h
  obtain rfl := Option.some.inj H
  go_enter Tryz.func102, Tryz.ntmps102
  go_wp2
  go_ret
  exact ⟨by first | rfl | (simp; done) | (simp [*]; done), by repeat (first | exact Drawn0.refl _ | apply Drawn0.step)⟩

/-! ### calendar_Days: function 74 -/
mutual
def calendar_Days.j0 : Nat → Int → Bool → Option (Int × Int × Int)
  | 0, _, _ => none
  | k + 1, x0, x12 => if x12 = true then (some (0, 0, 3)) else ((calendar_firstOf.f (wrap64 (2000 + (wrap64 (Int.tdiv x0 12))))).bind fun t194 => (calendar_Days.l0 k x0 (wrap64 (2000 + (wrap64 (Int.tdiv x0 12)))) t194 (Int.tmod x0 12) 0))
def calendar_Days.l0 : Nat → Int → Int → Int → Int → Int → Option (Int × Int × Int)
  | 0, _, _, _, _, _ => none
  | k + 1, x0, x4, x5, x20, x21 => if x21 < x20 then ((calendar_length.f x4 x21).bind fun t195 => (calendar_Days.l0 k x0 x4 (wrap64 (x5 + t195)) x20 (wrap64 (x21 + 1)))) else ((calendar_length.f x4 (Int.tmod x0 12)).bind fun t196 => (some (x5, wrap64 (x5 + t196), 0)))
end
def calendar_Days.f (k : Nat) (a0 : Int) : Option (Int × Int × Int) := if a0 < 0 then (calendar_Days.j0 k a0 true) else (calendar_Days.j0 k a0 (decide (a0 > 1199)))
theorem calendar_Days.mono_l : ∀ k, (∀ y0 y1, LeO (calendar_Days.j0 k y0 y1) (calendar_Days.j0 (k + 1) y0 y1)) ∧ (∀ y0 y1 y2 y3 y4, LeO (calendar_Days.l0 k y0 y1 y2 y3 y4) (calendar_Days.l0 (k + 1) y0 y1 y2 y3 y4))
  | 0 => ⟨fun _ _ r h => by simp [calendar_Days.j0] at h, fun _ _ _ _ _ r h => by simp [calendar_Days.l0] at h⟩
  | k + 1 => by
    obtain ⟨ih0, ih1⟩ := calendar_Days.mono_l k
    refine ⟨?_, ?_⟩
    · intro y0 y1
      unfold calendar_Days.j0
      repeat' first
      | (with_reducible exact ih0 _ _)
      | (with_reducible exact ih1 _ _ _ _ _)
      | (with_reducible exact LeO.refl _)
      | (with_reducible exact LeO.none _)
      | (with_reducible refine LeO.ite ?_ ?_)
      | (with_reducible refine LeO.bind ?_ (fun _ => ?_))
      | exact ih0 _ _
      | exact ih1 _ _ _ _ _
      | exact LeO.none _
      | refine LeO.ite ?_ ?_
      | refine LeO.bind ?_ (fun _ => ?_)
    · intro y0 y1 y2 y3 y4
      unfold calendar_Days.l0
      repeat' first
      | (with_reducible exact ih0 _ _)
      | (with_reducible exact ih1 _ _ _ _ _)
      | (with_reducible exact LeO.refl _)
      | (with_reducible exact LeO.none _)
      | (with_reducible refine LeO.ite ?_ ?_)
      | (with_reducible refine LeO.bind ?_ (fun _ => ?_))
      | exact ih0 _ _
      | exact ih1 _ _ _ _ _
      | exact LeO.none _
      | refine LeO.ite ?_ ?_
      | refine LeO.bind ?_ (fun _ => ?_)
theorem calendar_Days.mono : ∀ a0 k, LeO (calendar_Days.f k a0) (calendar_Days.f (k + 1) a0) := by
  intro a0 k
  obtain ⟨ih0, ih1⟩ := calendar_Days.mono_l k
  unfold calendar_Days.f
  repeat' first
      | (with_reducible exact ih0 _ _)
      | (with_reducible exact ih1 _ _ _ _ _)
      | (with_reducible exact LeO.refl _)
      | (with_reducible exact LeO.none _)
      | (with_reducible refine LeO.ite ?_ ?_)
      | (with_reducible refine LeO.bind ?_ (fun _ => ?_))
      | exact ih0 _ _
      | exact ih1 _ _ _ _ _
      | exact LeO.none _
      | refine LeO.ite ?_ ?_
      | refine LeO.bind ?_ (fun _ => ?_)
set_option maxHeartbeats 8000000 in
set_option maxRecDepth 100000 in
theorem calendar_Days.calls (k : Nat) (a0 : Int) (r1 : Int) (r2 : Int) (r3 : Int) (w : World) (hG : GL w) (h : calendar_Days.f k a0 = some (r1, r2, r3)) :
    Calls Tryz.prog 74 #[.int .i64 a0] w fun e w' => e = .returned (.tuple #[.agg #[.int .i64 r1, .int .i64 r2], .int .i64 r3]) ∧ Below w.heap.size w w' := by
  have hu24 := Tryz.underlying24
  have HG := Aside0.mk hG
  clear hG
  have HB := Aside0.mk (Below.refl w.heap.size w)
  have H : (if a0 < 0 then (calendar_Days.j0 k a0 true) else (calendar_Days.j0 k a0 (decide (a0 > 1199)))) = some (r1, r2, r3) := h
  clear h
  have HC2 := Aside0.mk H
  clear H
  go_enter Tryz.func74, Tryz.ntmps74
  go_upto_region 1 with (first | ((with_reducible refine gate_dst (N := 2) rfl ?_); refine box_event ?hg (N := 2) ?hd (cs := #[.int .i64 0, .int .i64 0]) (t := 24) ?hr ?_; (case hd => rfl); (case hg => rfl); (case hr => first | (go_simp; done) | (go_simp; rfl)); intro gb193 hg w3 hbox hb; have n0_ := Aside0.mk (below_step (by repeat (first | (with_reducible first | exact HB.out | apply below_alloc | apply pw_below_drewN | apply below_drew1) | exact HB.out)) hb); have n1_ := Aside0.mk (hbox); have n2_ := Aside0.mk ((by rw [hg]; exact (below_size (by repeat (first | (with_reducible first | exact HB.out | apply below_alloc | apply pw_below_drewN | apply below_drew1) | exact HB.out))) : w.heap.size ≤ gb193)); have n3_ := Aside0.mk ((by rw [hg]; exact (below_size (by repeat (first | (with_reducible first | exact HB.out | apply below_alloc | apply pw_below_drewN | apply below_drew1) | exact HB.out))) : w.heap.size ≤ gb193)); clear HB; have HB := n0_; have BK193 := n1_; have GW193 := n2_; have GE193 := n3_; clear n0_ n1_ n2_ n3_; clear hb hbox hg))
  (try simp only [Act.put, List.setIfInBounds_toArray, List.set_cons_zero, List.set_cons_succ])
  go_cut [12] (fun v12 wc => ∃ (kq : Nat) (x12_1 : Bool), v12 = .bool x12_1 ∧ Aside0 (calendar_Days.j0 kq a0 x12_1 = some (r1, r2, r3)) ∧ Aside0 (kq ≤ k) ∧ Aside0 (wc.heap[gb193]? = some (.cells #[.int .i64 0, .int .i64 0] 24 (0, 0))) ∧ Aside0 (Below w.heap.size w wc))
  case first =>
    have H := HC2.out
    clear HC2
    by_cases c4 : a0 < 0
    · rw [if_pos c4] at H
      have c4b0 : decide (a0 < 0) = true := decide_eq_true c4
      clear c4
      (first | rw [c4b0] | (simp only [i64_w, i32_w]; rw [c4b0]) | skip)
      have H' := Aside0.mk H
      clear H
      go_wp2
      go_meet
      case rel => exact ⟨_, (true), (by first | rfl | (simp; done) | (simp [*]; done)), H', ⟨by first | omega | exact Nat.le_refl _⟩, ⟨by (with_reducible repeat (first | refine blk_drewN ?_ _ | refine blk_drew ?_ | refine blk_alloc ?_ _)); exact BK193.out⟩, ⟨by repeat (first | (with_reducible first | exact HB.out | apply below_alloc | apply pw_below_drewN | apply below_drew1 | refine below_set ?_ GE193.out) | exact HB.out)⟩⟩
    · rw [if_neg c4] at H
      have c4b0 : decide (a0 < 0) = false := decide_eq_false c4
      clear c4
      (first | rw [c4b0] | (simp only [i64_w, i32_w]; rw [c4b0]) | skip)
      have H' := Aside0.mk H
      clear H
      go_wp2
      go_meet
      case rel => exact ⟨_, (decide (a0 > 1199)), (by first | rfl | (simp; done) | (simp [*]; done)), H', ⟨by first | omega | exact Nat.le_refl _⟩, ⟨by (with_reducible repeat (first | refine blk_drewN ?_ _ | refine blk_drew ?_ | refine blk_alloc ?_ _)); exact BK193.out⟩, ⟨by repeat (first | (with_reducible first | exact HB.out | apply below_alloc | apply pw_below_drewN | apply below_drew1 | refine below_set ?_ GE193.out) | exact HB.out)⟩⟩
  case rest =>
    clear HC2
    try clear p2
    try clear c4
    try clear c4b0
    obtain ⟨kq, x12_1, rfl, HA, HJ1, BK193, HB⟩ := hcut
    cases kq with
    | zero => exact absurd HA.out (by simp [calendar_Days.j0])
    | succ kj1 =>
      have H := HA.out
      clear HA
      simp only [calendar_Days.j0] at H
      by_cases c5 : x12_1 = true
      · subst c5
        have H1 : (some (0, 0, 3)) = some (r1, r2, r3) := by rw [if_pos rfl] at H; exact H
        clear H
        have H := H1
        clear H1
        simp only [Option.some.injEq, Prod.mk.injEq] at H
        obtain ⟨rfl, rfl, rfl⟩ := H
        have hcz6_0 : wc.cell? ⟨gb193, 0, none⟩ = some (.int .i64 0) := (blk_cell BK193.out 0).trans rfl
        have hcz6_1 : wc.cell? ⟨gb193, 1, none⟩ = some (.int .i64 0) := (blk_cell BK193.out 1).trans rfl
        have hfz6_0 := blk_frozen BK193.out 0
        have hfz6_1 := blk_frozen BK193.out 1
        go_wp2
        refine bodyPost_ret (results_ct rfl _ _ gb193 24 #[.int .i64 0, .int .i64 0] (0, 0) _ rfl (by (with_reducible repeat (first | refine blk_drewN ?_ _ | refine blk_drew ?_ | refine blk_alloc ?_ _)); refine blk_put (cs := #[.int .i64 0, .int .i64 0]) ?_ 1 _ rfl; (with_reducible repeat (first | refine blk_drewN ?_ _ | refine blk_drew ?_ | refine blk_alloc ?_ _)); refine blk_put (cs := #[.int .i64 0, .int .i64 0]) ?_ 0 _ rfl; (with_reducible repeat (first | refine blk_drewN ?_ _ | refine blk_drew ?_ | refine blk_alloc ?_ _)); exact BK193.out) Tryz.underlying24 rfl (by kernel_rfl)) rfl ?_
        exact ⟨by first | rfl | (simp [errW_none, errW_some] <;> rfl) | (simp [*, errW_none, errW_some] <;> rfl), by repeat (first | (with_reducible first | exact HB.out | apply below_alloc | apply pw_below_drewN | apply below_drew1 | refine below_set ?_ GE193.out) | exact HB.out)⟩
      · replace c5 := Bool.eq_false_iff.mpr c5
        subst c5
        have H1 : ((calendar_firstOf.f (wrap64 (2000 + (wrap64 (Int.tdiv a0 12))))).bind fun t194 => (calendar_Days.l0 kj1 a0 (wrap64 (2000 + (wrap64 (Int.tdiv a0 12)))) t194 (Int.tmod a0 12) 0)) = some (r1, r2, r3) := by rw [if_neg (show ¬ (false = true) by decide)] at H; exact H
        clear H
        have H := H1
        clear H1
        replace H := Option.bind_eq_some_iff.mp H
        obtain ⟨t194, A70, H⟩ := H
        replace H : (calendar_Days.l0 kj1 a0 (wrap64 (2000 + (wrap64 (Int.tdiv a0 12)))) t194 (Int.tmod a0 12) 0) = some (r1, r2, r3) := H
        have A7 := Aside0.mk A70
        clear A70
        have H' := Aside0.mk H
        clear H
        go_wp2_with (first | ((with_reducible refine gate_callee (f := 102) rfl ?_); refine goesL_ (some 18) rfl rfl Tryz.func102 (by kernel_rfl) rfl #[.int .i64 (wrap64 (2000 + (wrap64 (Int.tdiv a0 12))))] rfl (by (try simp only [List.map_toArray, List.map_cons, List.map_nil]); first | done | rfl | (simp only [List.length_drop, List.length_take]; rfl)) ?_; (with_reducible refine (calendar_firstOf.calls (wrap64 (2000 + (wrap64 (Int.tdiv a0 12)))) t194 _ A7.out).mono ?_); rintro e w' ⟨rfl, ⟨nd, rfl⟩⟩; refine ⟨_, rfl, ?_⟩))
        go_loopg [5, 21] kj1 (fun kq v5 v21 w' => ∃ (x5_2 : Int) (x21_2 : Int), v5 = .int .i64 x5_2 ∧ v21 = .int .i64 x21_2 ∧ Aside0 (calendar_Days.l0 kq a0 (wrap64 (2000 + (wrap64 (Int.tdiv a0 12)))) x5_2 (Int.tmod a0 12) x21_2 = some (r1, r2, r3)) ∧ Aside0 (kq ≤ kj1) ∧ Aside0 (w'.heap[gb193]? = some (.cells #[.int .i64 0, .int .i64 0] 24 (0, 0))) ∧ Aside0 (Below w.heap.size w w'))
        case atStart => exact ⟨(t194), (0), (by first | rfl | (simp; done) | (simp [*]; done)), (by first | rfl | (simp; done) | (simp [*]; done)), H', ⟨Nat.le_refl _⟩, ⟨by (with_reducible repeat (first | refine blk_drewN ?_ _ | refine blk_drew ?_ | refine blk_alloc ?_ _)); exact BK193.out⟩, ⟨by repeat (first | (with_reducible first | exact HB.out | apply below_alloc | apply pw_below_drewN | apply below_drew1 | refine below_set ?_ GE193.out) | exact HB.out)⟩⟩
        case round =>
          clear H'
          try clear c1
          try clear p2
          try clear c4
          try clear c4b0
          try clear c5
          try clear p6
          try clear c7
          try clear hcz6_0
          try clear hcz6_1
          try clear hfz6_0
          try clear hfz6_1
          try clear p2
          obtain ⟨x5_2, x21_2, rfl, rfl, HA, HK2, BK193, HB⟩ := hrel
          cases gk with
          | zero => exact absurd HA.out (by simp [calendar_Days.l0])
          | succ k2 =>
            have H := HA.out
            clear HA
            simp only [calendar_Days.l0] at H
            by_cases c8 : x21_2 < (Int.tmod a0 12)
            · rw [if_pos c8] at H
              have c8b0 : decide (x21_2 < (Int.tmod a0 12)) = true := decide_eq_true c8
              clear c8
              replace H := Option.bind_eq_some_iff.mp H
              obtain ⟨t195, A90, H⟩ := H
              replace H : (calendar_Days.l0 k2 a0 (wrap64 (2000 + (wrap64 (Int.tdiv a0 12)))) (wrap64 (x5_2 + t195)) (Int.tmod a0 12) (wrap64 (x21_2 + 1))) = some (r1, r2, r3) := H
              have A9 := Aside0.mk A90
              clear A90
              have H' := Aside0.mk H
              clear H
              go_wp2_with (first | ((with_reducible refine gate_callee (f := 83) rfl ?_); refine goesL_ (some 27) rfl rfl Tryz.func83 (by kernel_rfl) rfl #[.int .i64 (wrap64 (2000 + (wrap64 (Int.tdiv a0 12)))), .int .i64 x21_2] rfl (by (try simp only [List.map_toArray, List.map_cons, List.map_nil]); first | done | rfl | (simp only [List.length_drop, List.length_take]; rfl)) ?_; (with_reducible refine (calendar_length.calls (wrap64 (2000 + (wrap64 (Int.tdiv a0 12)))) x21_2 t195 _ ?side1 A9.out).mono ?_); (case side1 => exact GL.below HG.out (by repeat (first | (with_reducible first | exact HB.out | apply below_alloc | apply pw_below_drewN | apply below_drew1 | refine below_set ?_ GE193.out) | exact HB.out))); rintro e w' ⟨rfl, ⟨nd, rfl⟩⟩; refine ⟨_, rfl, ?_⟩))
              go_roundg k2
              case measure => have := HJ1.out; have := HK2.out; omega
              case rel => exact ⟨(wrap64 (x5_2 + t195)), (wrap64 (x21_2 + 1)), (by first | rfl | (simp; done) | (simp [*]; done)), (by first | rfl | (simp; done) | (simp [*]; done)), H', ⟨by have := HJ1.out; have := HK2.out; omega⟩, ⟨by (with_reducible repeat (first | refine blk_drewN ?_ _ | refine blk_drew ?_ | refine blk_alloc ?_ _)); exact BK193.out⟩, ⟨by repeat (first | (with_reducible first | exact HB.out | apply below_alloc | apply pw_below_drewN | apply below_drew1 | refine below_set ?_ GE193.out) | exact HB.out)⟩⟩
            · rw [if_neg c8] at H
              have c8b0 : decide (x21_2 < (Int.tmod a0 12)) = false := decide_eq_false c8
              clear c8
              replace H := Option.bind_eq_some_iff.mp H
              obtain ⟨t196, A100, H⟩ := H
              replace H : (some (x5_2, wrap64 (x5_2 + t196), 0)) = some (r1, r2, r3) := H
              have A10 := Aside0.mk A100
              clear A100
              simp only [Option.some.injEq, Prod.mk.injEq] at H
              obtain ⟨rfl, rfl, rfl⟩ := H
              go_wp2_with (first | ((with_reducible refine gate_callee (f := 83) rfl ?_); refine goesL_ (some 35) rfl rfl Tryz.func83 (by kernel_rfl) rfl #[.int .i64 (wrap64 (2000 + (wrap64 (Int.tdiv a0 12)))), .int .i64 (Int.tmod a0 12)] rfl (by (try simp only [List.map_toArray, List.map_cons, List.map_nil]); first | done | rfl | (simp only [List.length_drop, List.length_take]; rfl)) ?_; (with_reducible refine (calendar_length.calls (wrap64 (2000 + (wrap64 (Int.tdiv a0 12)))) (Int.tmod a0 12) t196 _ ?side1 A10.out).mono ?_); (case side1 => exact GL.below HG.out (by repeat (first | (with_reducible first | exact HB.out | apply below_alloc | apply pw_below_drewN | apply below_drew1 | refine below_set ?_ GE193.out) | exact HB.out))); rintro e w' ⟨rfl, ⟨nd, rfl⟩⟩; refine ⟨_, rfl, ?_⟩; (try (rw [drewN_self wr]; generalize hq_ : World.drewN wr _ = wr; have n0_ : Aside0 (wr.heap[gb193]? = some (.cells #[.int .i64 0, .int .i64 0] 24 (0, 0))) := ⟨by rw [← hq_]; exact (by (with_reducible repeat (first | refine blk_drewN ?_ _ | refine blk_drew ?_ | refine blk_alloc ?_ _)); exact BK193.out)⟩; have n1_ : Aside0 (Below w.heap.size w wr) := ⟨by rw [← hq_]; exact (by repeat (first | (with_reducible first | exact HB.out | apply below_alloc | apply pw_below_drewN | apply below_drew1 | refine below_set ?_ GE193.out) | exact HB.out))⟩; clear BK193 HB hq_; have BK193 := n0_; have HB := n1_; clear n0_ n1_)); have hcz11_0 : wr.cell? ⟨gb193, 0, none⟩ = some (.int .i64 0) := (blk_cell BK193.out 0).trans rfl; have hcz11_1 : wr.cell? ⟨gb193, 1, none⟩ = some (.int .i64 0) := (blk_cell BK193.out 1).trans rfl; have hfz11_0 := blk_frozen BK193.out 0; have hfz11_1 := blk_frozen BK193.out 1))
              refine bodyPost_ret (results_ct rfl _ _ gb193 24 #[.int .i64 x5_2, .int .i64 (wrap64 (x5_2 + t196))] (0, 0) _ rfl (by (with_reducible repeat (first | refine blk_drewN ?_ _ | refine blk_drew ?_ | refine blk_alloc ?_ _)); refine blk_put (cs := #[.int .i64 x5_2, .int .i64 0]) ?_ 1 _ rfl; (with_reducible repeat (first | refine blk_drewN ?_ _ | refine blk_drew ?_ | refine blk_alloc ?_ _)); refine blk_put (cs := #[.int .i64 0, .int .i64 0]) ?_ 0 _ rfl; (with_reducible repeat (first | refine blk_drewN ?_ _ | refine blk_drew ?_ | refine blk_alloc ?_ _)); exact BK193.out) Tryz.underlying24 rfl (by kernel_rfl)) rfl ?_
              exact ⟨by first | rfl | (simp [errW_none, errW_some] <;> rfl) | (simp [*, errW_none, errW_some] <;> rfl), by repeat (first | (with_reducible first | exact HB.out | apply below_alloc | apply pw_below_drewN | apply below_drew1 | refine below_set ?_ GE193.out) | exact HB.out)⟩

/-! ### setoff_instalment: function 47 -/
def setoff_instalment.f (k : Nat) (a0 : Int) (a1 : Int) : Option (Int × Int) := (calendar_Date.f k a0).bind fun bt197 => ((calendar_Month.f k a0).bind fun bt201 => ((calendar_Days.f k (wrap64 (bt201.1 + a1))).bind fun bt203 => (if bt203.2.2 = 0 then (some (mn (wrap64 ((wrap64 (bt203.1 + bt197.2.2.1)) - 1)) (wrap64 (bt203.2.1 - 1)), 0)) else (some (0, bt203.2.2)))))
theorem setoff_instalment.mono : ∀ a0 a1 k, LeO (setoff_instalment.f k a0 a1) (setoff_instalment.f (k + 1) a0 a1) := by
  intro a0 a1 k
  unfold setoff_instalment.f
  repeat' first
      | (with_reducible exact calendar_Date.mono _ _)
      | (with_reducible exact calendar_Days.mono _ _)
      | (with_reducible exact calendar_Month.mono _ _)
      | (with_reducible exact LeO.refl _)
      | (with_reducible exact LeO.none _)
      | (with_reducible refine LeO.ite ?_ ?_)
      | (with_reducible refine LeO.bind ?_ (fun _ => ?_))
      | exact calendar_Date.mono _ _
      | exact calendar_Days.mono _ _
      | exact calendar_Month.mono _ _
      | exact LeO.none _
      | refine LeO.ite ?_ ?_
      | refine LeO.bind ?_ (fun _ => ?_)
set_option maxHeartbeats 8000000 in
set_option maxRecDepth 100000 in
theorem setoff_instalment.calls (k : Nat) (a0 : Int) (a1 : Int) (r1 : Int) (r2 : Int) (w : World) (hG : GL w) (h : setoff_instalment.f k a0 a1 = some (r1, r2)) :
    Calls Tryz.prog 47 #[.int .i64 a0, .int .i64 a1] w fun e w' => e = .returned (.tuple #[.int .i64 r1, .int .i64 r2]) ∧ Below w.heap.size w w' := by
  have hu24 := Tryz.underlying24
  have HG := Aside0.mk hG
  clear hG
  have HB := Aside0.mk (Below.refl w.heap.size w)
  have H : ((calendar_Date.f k a0).bind fun bt197 => ((calendar_Month.f k a0).bind fun bt201 => ((calendar_Days.f k (wrap64 (bt201.1 + a1))).bind fun bt203 => (if bt203.2.2 = 0 then (some (mn (wrap64 ((wrap64 (bt203.1 + bt197.2.2.1)) - 1)) (wrap64 (bt203.2.1 - 1)), 0)) else (some (0, bt203.2.2)))))) = some (r1, r2) := h
  clear h
  replace H := Option.bind_eq_some_iff.mp H
  obtain ⟨⟨t197, t198, t199, t200⟩, A30, H⟩ := H
  replace H : ((calendar_Month.f k a0).bind fun bt201 => ((calendar_Days.f k (wrap64 (bt201.1 + a1))).bind fun bt203 => (if bt203.2.2 = 0 then (some (mn (wrap64 ((wrap64 (bt203.1 + t199)) - 1)) (wrap64 (bt203.2.1 - 1)), 0)) else (some (0, bt203.2.2))))) = some (r1, r2) := H
  have A3 := Aside0.mk A30
  clear A30
  replace H := Option.bind_eq_some_iff.mp H
  obtain ⟨⟨t201, t202⟩, A40, H⟩ := H
  replace H : ((calendar_Days.f k (wrap64 (t201 + a1))).bind fun bt203 => (if bt203.2.2 = 0 then (some (mn (wrap64 ((wrap64 (bt203.1 + t199)) - 1)) (wrap64 (bt203.2.1 - 1)), 0)) else (some (0, bt203.2.2)))) = some (r1, r2) := H
  have A4 := Aside0.mk A40
  clear A40
  replace H := Option.bind_eq_some_iff.mp H
  obtain ⟨⟨t203, t204, t205⟩, A50, H⟩ := H
  replace H : (if t205 = 0 then (some (mn (wrap64 ((wrap64 (t203 + t199)) - 1)) (wrap64 (t204 - 1)), 0)) else (some (0, t205))) = some (r1, r2) := H
  have A5 := Aside0.mk A50
  clear A50
  by_cases c6 : t205 = 0
  · rw [if_pos c6] at H
    have c6b0 : (t205 == 0) = true := beq_iff_eq.mpr c6
    have c6b1 : (t205 != 0) = false := bne_eq_false_iff_eq.mpr c6
    clear c6
    obtain ⟨ji7, hji7⟩ : ∃ j_ : Int, (mn (wrap64 ((wrap64 (t203 + t199)) - 1)) (wrap64 (t204 - 1))) = j_ := ⟨_, rfl⟩
    replace H : (some (ji7, 0)) = some (r1, r2) := by first | (rw [hji7] at H; exact H) | (simp only [hji7] at H ⊢; exact H)
    (try rw [hji7] at A3)
    (try rw [hji7] at A4)
    (try rw [hji7] at A5)
    have hji7_ : (if (wrap64 (t204 - 1)) < (wrap64 ((wrap64 (t203 + t199)) - 1)) then (wrap64 (t204 - 1)) else (wrap64 ((wrap64 (t203 + t199)) - 1))) = ji7 := hji7
    simp only [Option.some.injEq, Prod.mk.injEq] at H
    obtain ⟨rfl, rfl⟩ := H
    go_enter Tryz.func47, Tryz.ntmps47
    go_wp2_with (first | ((with_reducible refine gate_callee (f := 52) rfl ?_); refine goesL_ (some 16) rfl rfl Tryz.func52 (by kernel_rfl) rfl #[.int .i64 a0] rfl (by (try simp only [List.map_toArray, List.map_cons, List.map_nil]); first | done | rfl | (simp only [List.length_drop, List.length_take]; rfl)) ?_; (with_reducible refine (calendar_Date.calls k a0 t197 t198 t199 t200 _ ?side1 A3.out).mono ?_); (case side1 => exact GL.below HG.out (by repeat (first | (with_reducible first | exact HB.out | apply below_alloc | apply pw_below_drewN | apply below_drew1) | exact HB.out))); rintro e w' ⟨rfl, ⟨nd, rfl⟩⟩; refine ⟨_, rfl, ?_⟩) | ((with_reducible refine gate_callee (f := 25) rfl ?_); refine goesL_ (some 23) rfl rfl Tryz.func25 (by kernel_rfl) rfl #[.int .i64 a0] rfl (by (try simp only [List.map_toArray, List.map_cons, List.map_nil]); first | done | rfl | (simp only [List.length_drop, List.length_take]; rfl)) ?_; (with_reducible refine (calendar_Month.calls k a0 t201 t202 _ ?side1 A4.out).mono ?_); (case side1 => exact GL.below HG.out (by repeat (first | (with_reducible first | exact HB.out | apply below_alloc | apply pw_below_drewN | apply below_drew1) | exact HB.out))); rintro e w' ⟨rfl, ⟨nd, rfl⟩⟩; refine ⟨_, rfl, ?_⟩) | ((with_reducible refine gate_callee (f := 74) rfl ?_); refine goesL_ (some 30) rfl rfl Tryz.func74 (by kernel_rfl) rfl #[.int .i64 (wrap64 (t201 + a1))] rfl (by (try simp only [List.map_toArray, List.map_cons, List.map_nil]); first | done | rfl | (simp only [List.length_drop, List.length_take]; rfl)) ?_; (with_reducible refine (calendar_Days.calls k (wrap64 (t201 + a1)) t203 t204 t205 _ ?side1 A5.out).mono ?_); (case side1 => exact GL.below HG.out (by repeat (first | (with_reducible first | exact HB.out | apply below_alloc | apply pw_below_drewN | apply below_drew1) | exact HB.out))); rintro e w8 ⟨rfl, hb⟩; refine ⟨_, rfl, ?_⟩; have n0_ := Aside0.mk (below_step (by repeat (first | (with_reducible first | exact HB.out | apply below_alloc | apply pw_below_drewN | apply below_drew1) | exact HB.out)) hb); clear HB; have HB := n0_; clear n0_; (try clear hb); (try clear hb2); (try clear hk); (try clear hi)) | ((with_reducible refine gate_dst (N := 12) rfl ?_); refine box_event ?hg (N := 12) ?hd (cs := #[.int .i64 0, .int .i64 0]) (t := 24) ?hr ?_; (case hd => rfl); (case hg => rfl); (case hr => first | (go_simp; done) | (go_simp; rfl)); intro gb206 hg w9 hbox hb; have n0_ := Aside0.mk (below_step (by repeat (first | (with_reducible first | exact HB.out | apply below_alloc | apply pw_below_drewN | apply below_drew1) | exact HB.out)) hb); have n1_ := Aside0.mk (hbox); have n2_ := Aside0.mk ((by rw [hg]; exact (below_size (by repeat (first | (with_reducible first | exact HB.out | apply below_alloc | apply pw_below_drewN | apply below_drew1) | exact HB.out))) : w.heap.size ≤ gb206)); have n3_ := Aside0.mk ((by rw [hg]; exact (below_size (by repeat (first | (with_reducible first | exact HB.out | apply below_alloc | apply pw_below_drewN | apply below_drew1) | exact HB.out))) : w.heap.size ≤ gb206)); clear HB; have HB := n0_; have BK206 := n1_; have GW206 := n2_; have GE206 := n3_; clear n0_ n1_ n2_ n3_; clear hb hbox hg; have hcz10_0 : w9.cell? ⟨gb206, 0, none⟩ = some (.int .i64 0) := (blk_cell BK206.out 0).trans rfl; have hcz10_1 : w9.cell? ⟨gb206, 1, none⟩ = some (.int .i64 0) := (blk_cell BK206.out 1).trans rfl; have hfz10_0 := blk_frozen BK206.out 0; have hfz10_1 := blk_frozen BK206.out 1))
    go_ret2
    exact ⟨by first | rfl | (simp [errW_none, errW_some] <;> rfl) | (simp only [← hji7]; first | rfl | (simp [errW_none, errW_some] <;> rfl)) | (simp [*, errW_none, errW_some] <;> rfl), by repeat (first | (with_reducible first | exact HB.out | apply below_alloc | apply pw_below_drewN | apply below_drew1 | refine below_set ?_ GE206.out) | exact HB.out)⟩
  · rw [if_neg c6] at H
    have c6b0 : (t205 == 0) = false := beq_eq_false_iff_ne.mpr c6
    have c6b1 : (t205 != 0) = true := bne_iff_ne.mpr c6
    simp only [Option.some.injEq, Prod.mk.injEq] at H
    obtain ⟨rfl, rfl⟩ := H
    go_enter Tryz.func47, Tryz.ntmps47
    go_wp2_with (first | ((with_reducible refine gate_callee (f := 52) rfl ?_); refine goesL_ (some 16) rfl rfl Tryz.func52 (by kernel_rfl) rfl #[.int .i64 a0] rfl (by (try simp only [List.map_toArray, List.map_cons, List.map_nil]); first | done | rfl | (simp only [List.length_drop, List.length_take]; rfl)) ?_; (with_reducible refine (calendar_Date.calls k a0 t197 t198 t199 t200 _ ?side1 A3.out).mono ?_); (case side1 => exact GL.below HG.out (by repeat (first | (with_reducible first | exact HB.out | apply below_alloc | apply pw_below_drewN | apply below_drew1) | exact HB.out))); rintro e w' ⟨rfl, ⟨nd, rfl⟩⟩; refine ⟨_, rfl, ?_⟩) | ((with_reducible refine gate_callee (f := 25) rfl ?_); refine goesL_ (some 23) rfl rfl Tryz.func25 (by kernel_rfl) rfl #[.int .i64 a0] rfl (by (try simp only [List.map_toArray, List.map_cons, List.map_nil]); first | done | rfl | (simp only [List.length_drop, List.length_take]; rfl)) ?_; (with_reducible refine (calendar_Month.calls k a0 t201 t202 _ ?side1 A4.out).mono ?_); (case side1 => exact GL.below HG.out (by repeat (first | (with_reducible first | exact HB.out | apply below_alloc | apply pw_below_drewN | apply below_drew1) | exact HB.out))); rintro e w' ⟨rfl, ⟨nd, rfl⟩⟩; refine ⟨_, rfl, ?_⟩) | ((with_reducible refine gate_callee (f := 74) rfl ?_); refine goesL_ (some 30) rfl rfl Tryz.func74 (by kernel_rfl) rfl #[.int .i64 (wrap64 (t201 + a1))] rfl (by (try simp only [List.map_toArray, List.map_cons, List.map_nil]); first | done | rfl | (simp only [List.length_drop, List.length_take]; rfl)) ?_; (with_reducible refine (calendar_Days.calls k (wrap64 (t201 + a1)) t203 t204 t205 _ ?side1 A5.out).mono ?_); (case side1 => exact GL.below HG.out (by repeat (first | (with_reducible first | exact HB.out | apply below_alloc | apply pw_below_drewN | apply below_drew1) | exact HB.out))); rintro e w11 ⟨rfl, hb⟩; refine ⟨_, rfl, ?_⟩; have n0_ := Aside0.mk (below_step (by repeat (first | (with_reducible first | exact HB.out | apply below_alloc | apply pw_below_drewN | apply below_drew1) | exact HB.out)) hb); clear HB; have HB := n0_; clear n0_; (try clear hb); (try clear hb2); (try clear hk); (try clear hi)) | ((with_reducible refine gate_dst (N := 12) rfl ?_); refine box_event ?hg (N := 12) ?hd (cs := #[.int .i64 0, .int .i64 0]) (t := 24) ?hr ?_; (case hd => rfl); (case hg => rfl); (case hr => first | (go_simp; done) | (go_simp; rfl)); intro gb206 hg w12 hbox hb; have n0_ := Aside0.mk (below_step (by repeat (first | (with_reducible first | exact HB.out | apply below_alloc | apply pw_below_drewN | apply below_drew1) | exact HB.out)) hb); have n1_ := Aside0.mk (hbox); have n2_ := Aside0.mk ((by rw [hg]; exact (below_size (by repeat (first | (with_reducible first | exact HB.out | apply below_alloc | apply pw_below_drewN | apply below_drew1) | exact HB.out))) : w.heap.size ≤ gb206)); have n3_ := Aside0.mk ((by rw [hg]; exact (below_size (by repeat (first | (with_reducible first | exact HB.out | apply below_alloc | apply pw_below_drewN | apply below_drew1) | exact HB.out))) : w.heap.size ≤ gb206)); clear HB; have HB := n0_; have BK206 := n1_; have GW206 := n2_; have GE206 := n3_; clear n0_ n1_ n2_ n3_; clear hb hbox hg; have hcz13_0 : w12.cell? ⟨gb206, 0, none⟩ = some (.int .i64 0) := (blk_cell BK206.out 0).trans rfl; have hcz13_1 : w12.cell? ⟨gb206, 1, none⟩ = some (.int .i64 0) := (blk_cell BK206.out 1).trans rfl; have hfz13_0 := blk_frozen BK206.out 0; have hfz13_1 := blk_frozen BK206.out 1))
    go_ret2
    exact ⟨by first | rfl | (simp [errW_none, errW_some] <;> rfl) | (simp [*, errW_none, errW_some] <;> rfl), by repeat (first | (with_reducible first | exact HB.out | apply below_alloc | apply pw_below_drewN | apply below_drew1 | refine below_set ?_ GE206.out) | exact HB.out)⟩

end Go.Proofs.YtnkgnjklkocojaaGreatDoor.X
