-- Written by a program of mine (wip/tools/xprint.py) over the kit's print.py: printed functions and hand-proved ones side by side.
import Derived.Test.YtmpjoaljincclaaDoorXx0
import Derived.Test.YtmpjoaljincclaaDoorXx1
import Derived.Test.YtmpjoaljincclaaDoorXx6
import Derived.Test.YtmpjoaljincclaaDoorXx7
import Derived.Test.YtmpjoaljincclaaDoorXx8
namespace Go.Proofs.YtmpjoaljincclaaDoor.X
open Go.RowKit Go.Proofs.YtmpjoaljincclaaDoorW.PrintWords Go.Proofs.YtmpjoaljincclaaDoorW.PrintLast Go.Proofs.YtmpjoaljincclaaDoorW.PrintMore
attribute [local go_sem] max2_int min2_int max_two min_two max_three min_three max_four min_four   -- for this text's walks alone
set_option linter.unusedVariables false
set_option linter.unusedSimpArgs false

/-! ### cohousingref07_Next: function 23 -/
mutual
def cohousingref07_Next.j0 : Nat → ByteArray → Int → Bool → Bool → Option (Int × Int × ByteArray × Int × Int × Int × Int)
  | 0, _, _, _, _ => none
  | k + 1, x0, x1, x7, x24 => if x24 = true then (if 0 ≤ x1 then (if x1 ≤ (x0.size : Int) then ((cohousingref07_Sign.f k (x0.extract (x1 : Int).toNat x0.size)).bind fun t147 => (if t147 = 0 then (some (0, 0, (⟨#[]⟩ : ByteArray), 0, 0, 0, 10)) else (if x1 ≤ (wrap64 (x1 + t147)) then (if (wrap64 (x1 + t147)) ≤ (x0.size : Int) then (some (3, x1, x0.extract (x1 : Int).toNat ((wrap64 (x1 + t147)) : Int).toNat, 0, 0, t147, 0)) else (none)) else (none)))) else (none)) else (none)) else (cohousingref07_Next.l0 k x0 x1 x7 0)
def cohousingref07_Next.j2 : Nat → ByteArray → Int → Bool → Int → Option (Int × Int × ByteArray × Int × Int × Int × Int)
  | 0, _, _, _, _ => none
  | k + 1, x0, x1, x7, x9 => if x7 = true then (if 0 ≤ x1 then (if x1 ≤ (wrap64 (x1 + x9)) then (if (wrap64 (x1 + x9)) ≤ (x0.size : Int) then ((cohousingref07_Value.f k (x0.extract (x1 : Int).toNat ((wrap64 (x1 + x9)) : Int).toNat)).bind fun bt149 => (if bt149.2.2 = 0 then (some (2, x1, (⟨#[]⟩ : ByteArray), bt149.1, bt149.2.1, x9, 0)) else (some (0, 0, (⟨#[]⟩ : ByteArray), 0, 0, 0, bt149.2.2)))) else (none)) else (none)) else (none)) else (if x9 > 16 then (some (0, 0, (⟨#[]⟩ : ByteArray), 0, 0, 0, 2)) else (if 0 ≤ x1 then (if x1 ≤ (wrap64 (x1 + x9)) then (if (wrap64 (x1 + x9)) ≤ (x0.size : Int) then (some (1, x1, x0.extract (x1 : Int).toNat ((wrap64 (x1 + x9)) : Int).toNat, 0, 0, x9, 0)) else (none)) else (none)) else (none)))
def cohousingref07_Next.l0 : Nat → ByteArray → Int → Bool → Int → Option (Int × Int × ByteArray × Int × Int × Int × Int)
  | 0, _, _, _, _ => none
  | k + 1, x0, x1, x7, x9 => if (wrap64 (x1 + x9)) < (x0.size : Int) then (if 0 ≤ (wrap64 (x1 + x9)) then ((cohousingref07_Part.f (bt x0 (wrap64 (x1 + x9))) x7).bind fun t148 => (if t148 = true then (cohousingref07_Next.l0 k x0 x1 x7 (wrap64 (x9 + 1))) else (cohousingref07_Next.j2 k x0 x1 x7 x9))) else (none)) else (cohousingref07_Next.j2 k x0 x1 x7 x9)
end
def cohousingref07_Next.f (k : Nat) (a0 : ByteArray) (a1 : Int) : Option (Int × Int × ByteArray × Int × Int × Int × Int) := if 0 ≤ a1 then (if a1 < (a0.size : Int) then ((cohousingref07_Digit.f (bt a0 a1)).bind fun t145 => (if t145 = true then (cohousingref07_Next.j0 k a0 a1 t145 false) else ((cohousingref07_Letter.f (bt a0 a1)).bind fun t146 => (cohousingref07_Next.j0 k a0 a1 t145 (!t146))))) else (none)) else (none)
theorem cohousingref07_Next.mono_l : ∀ k, (∀ y0 y1 y2 y3, LeO (cohousingref07_Next.j0 k y0 y1 y2 y3) (cohousingref07_Next.j0 (k + 1) y0 y1 y2 y3)) ∧ (∀ y0 y1 y2 y3, LeO (cohousingref07_Next.j2 k y0 y1 y2 y3) (cohousingref07_Next.j2 (k + 1) y0 y1 y2 y3)) ∧ (∀ y0 y1 y2 y3, LeO (cohousingref07_Next.l0 k y0 y1 y2 y3) (cohousingref07_Next.l0 (k + 1) y0 y1 y2 y3))
  | 0 => ⟨fun _ _ _ _ r h => by simp [cohousingref07_Next.j0] at h, fun _ _ _ _ r h => by simp [cohousingref07_Next.j2] at h, fun _ _ _ _ r h => by simp [cohousingref07_Next.l0] at h⟩
  | k + 1 => by
    obtain ⟨ih0, ih1, ih2⟩ := cohousingref07_Next.mono_l k
    refine ⟨?_, ?_, ?_⟩
    · intro y0 y1 y2 y3
      unfold cohousingref07_Next.j0
      repeat' first
      | (with_reducible exact ih0 _ _ _ _)
      | (with_reducible exact ih1 _ _ _ _)
      | (with_reducible exact ih2 _ _ _ _)
      | (with_reducible exact cohousingref07_Sign.mono _ _)
      | (with_reducible exact cohousingref07_Value.mono _ _)
      | (with_reducible exact LeO.refl _)
      | (with_reducible exact LeO.none _)
      | (with_reducible refine LeO.ite ?_ ?_)
      | (with_reducible refine LeO.bind ?_ (fun _ => ?_))
      | exact ih0 _ _ _ _
      | exact ih1 _ _ _ _
      | exact ih2 _ _ _ _
      | exact cohousingref07_Sign.mono _ _
      | exact cohousingref07_Value.mono _ _
      | exact LeO.none _
      | refine LeO.ite ?_ ?_
      | refine LeO.bind ?_ (fun _ => ?_)
    · intro y0 y1 y2 y3
      unfold cohousingref07_Next.j2
      repeat' first
      | (with_reducible exact ih0 _ _ _ _)
      | (with_reducible exact ih1 _ _ _ _)
      | (with_reducible exact ih2 _ _ _ _)
      | (with_reducible exact cohousingref07_Sign.mono _ _)
      | (with_reducible exact cohousingref07_Value.mono _ _)
      | (with_reducible exact LeO.refl _)
      | (with_reducible exact LeO.none _)
      | (with_reducible refine LeO.ite ?_ ?_)
      | (with_reducible refine LeO.bind ?_ (fun _ => ?_))
      | exact ih0 _ _ _ _
      | exact ih1 _ _ _ _
      | exact ih2 _ _ _ _
      | exact cohousingref07_Sign.mono _ _
      | exact cohousingref07_Value.mono _ _
      | exact LeO.none _
      | refine LeO.ite ?_ ?_
      | refine LeO.bind ?_ (fun _ => ?_)
    · intro y0 y1 y2 y3
      unfold cohousingref07_Next.l0
      repeat' first
      | (with_reducible exact ih0 _ _ _ _)
      | (with_reducible exact ih1 _ _ _ _)
      | (with_reducible exact ih2 _ _ _ _)
      | (with_reducible exact cohousingref07_Sign.mono _ _)
      | (with_reducible exact cohousingref07_Value.mono _ _)
      | (with_reducible exact LeO.refl _)
      | (with_reducible exact LeO.none _)
      | (with_reducible refine LeO.ite ?_ ?_)
      | (with_reducible refine LeO.bind ?_ (fun _ => ?_))
      | exact ih0 _ _ _ _
      | exact ih1 _ _ _ _
      | exact ih2 _ _ _ _
      | exact cohousingref07_Sign.mono _ _
      | exact cohousingref07_Value.mono _ _
      | exact LeO.none _
      | refine LeO.ite ?_ ?_
      | refine LeO.bind ?_ (fun _ => ?_)
theorem cohousingref07_Next.mono : ∀ a0 a1 k, LeO (cohousingref07_Next.f k a0 a1) (cohousingref07_Next.f (k + 1) a0 a1) := by
  intro a0 a1 k
  obtain ⟨ih0, ih1, ih2⟩ := cohousingref07_Next.mono_l k
  unfold cohousingref07_Next.f
  repeat' first
      | (with_reducible exact ih0 _ _ _ _)
      | (with_reducible exact ih1 _ _ _ _)
      | (with_reducible exact ih2 _ _ _ _)
      | (with_reducible exact cohousingref07_Sign.mono _ _)
      | (with_reducible exact cohousingref07_Value.mono _ _)
      | (with_reducible exact LeO.refl _)
      | (with_reducible exact LeO.none _)
      | (with_reducible refine LeO.ite ?_ ?_)
      | (with_reducible refine LeO.bind ?_ (fun _ => ?_))
      | exact ih0 _ _ _ _
      | exact ih1 _ _ _ _
      | exact ih2 _ _ _ _
      | exact cohousingref07_Sign.mono _ _
      | exact cohousingref07_Value.mono _ _
      | exact LeO.none _
      | refine LeO.ite ?_ ?_
      | refine LeO.bind ?_ (fun _ => ?_)
set_option maxHeartbeats 8000000 in
set_option maxRecDepth 100000 in
theorem cohousingref07_Next.calls (k : Nat) (a0 : ByteArray) (a1 : Int) (r1 : Int) (r2 : Int) (r3 : ByteArray) (r4 : Int) (r5 : Int) (r6 : Int) (r7 : Int) (w : World) (h : cohousingref07_Next.f k a0 a1 = some (r1, r2, r3, r4, r5, r6, r7)) :
    Calls Tryd.prog 23 #[.string a0, .int .i64 a1] w fun e w' => e = .returned (.tuple #[.agg #[.int .i64 r1, .int .i64 r2, .string r3, .int .i64 r4, .int .i64 r5], .int .i64 r6, .int .i64 r7]) ∧ Below w.heap.size w w' := by
  have hu32 := Tryd.underlying32
  have hu30 := Tryd.underlying30
  have HB := Aside0.mk (Below.refl w.heap.size w)
  have H : (if 0 ≤ a1 then (if a1 < (a0.size : Int) then ((cohousingref07_Digit.f (bt a0 a1)).bind fun t145 => (if t145 = true then (cohousingref07_Next.j0 k a0 a1 t145 false) else ((cohousingref07_Letter.f (bt a0 a1)).bind fun t146 => (cohousingref07_Next.j0 k a0 a1 t145 (!t146))))) else (none)) else (none)) = some (r1, r2, r3, r4, r5, r6, r7) := h
  clear h
  by_cases c3 : 0 ≤ a1
  · rw [if_pos c3] at H
    have c3b0 : decide (0 ≤ a1) = true := decide_eq_true c3
    clear c3
    by_cases c4 : a1 < (a0.size : Int)
    · rw [if_pos c4] at H
      have c4b0 : decide (a1 < (a0.size : Int)) = true := decide_eq_true c4
      clear c4
      replace H := Option.bind_eq_some_iff.mp H
      obtain ⟨t145, A60, H⟩ := H
      replace H : (if t145 = true then (cohousingref07_Next.j0 k a0 a1 t145 false) else ((cohousingref07_Letter.f (bt a0 a1)).bind fun t146 => (cohousingref07_Next.j0 k a0 a1 t145 (!t146)))) = some (r1, r2, r3, r4, r5, r6, r7) := H
      have A6 := Aside0.mk A60
      clear A60
      have HC7 := Aside0.mk H
      clear H
      go_enter Tryd.func23, Tryd.ntmps23
      go_upto_region 2 with (first | ((with_reducible refine gate_dst (N := 4) rfl ?_); refine box_event ?hg (N := 4) ?hd (cs := #[.int .i64 0, .int .i64 0, .string (⟨#[]⟩ : ByteArray), .int .i64 0, .int .i64 0]) (t := 32) ?hr ?_; (case hd => rfl); (case hg => rfl); (case hr => first | (go_simp; done) | (go_simp; rfl)); intro gb144 hg w8 hbox hb; have n0_ := Aside0.mk (below_step (by repeat (first | (with_reducible first | exact HB.out | apply below_alloc | apply pw_below_drewN | apply below_drew1) | exact HB.out)) hb); have n1_ := Aside0.mk (hbox); have n2_ := Aside0.mk ((by rw [hg]; exact (below_size (by repeat (first | (with_reducible first | exact HB.out | apply below_alloc | apply pw_below_drewN | apply below_drew1) | exact HB.out))) : w.heap.size ≤ gb144)); have n3_ := Aside0.mk ((by rw [hg]; exact (below_size (by repeat (first | (with_reducible first | exact HB.out | apply below_alloc | apply pw_below_drewN | apply below_drew1) | exact HB.out))) : w.heap.size ≤ gb144)); clear HB; have HB := n0_; have BK144 := n1_; have GW144 := n2_; have GE144 := n3_; clear n0_ n1_ n2_ n3_; clear hb hbox hg; have p5 : 0 ≤ (a1 : Int) := of_decide_eq_true (by first | (with_reducible assumption) | assumption); have q5 : a1 < (a0.size : Int) := of_decide_eq_true (by first | (with_reducible assumption) | assumption); have hx5 := bt_at a0 a1; replace p5 := eq_true p5; replace q5 := eq_true q5) | ((with_reducible refine gate_callee (f := 34) rfl ?_); refine goesL_ (some 15) rfl rfl Tryd.func34 (by kernel_rfl) rfl #[.int .u8 (bt a0 a1)] rfl (by (try simp only [List.map_toArray, List.map_cons, List.map_nil]); first | done | rfl | (simp only [List.length_drop, List.length_take]; rfl)) ?_; (with_reducible refine (cohousingref07_Digit.calls (bt a0 a1) t145 _ A6.out).mono ?_); rintro e w' ⟨rfl, ⟨nd, rfl⟩⟩; refine ⟨_, rfl, ?_⟩))
      (try simp only [Act.put, List.setIfInBounds_toArray, List.set_cons_zero, List.set_cons_succ])
      go_cut [24] (fun v24 wc => ∃ (kq : Nat) (x24_6 : Bool), v24 = .bool x24_6 ∧ Aside0 (cohousingref07_Next.j0 kq a0 a1 t145 x24_6 = some (r1, r2, r3, r4, r5, r6, r7)) ∧ Aside0 (kq ≤ k) ∧ Aside0 (wc.heap[gb144]? = some (.cells #[.int .i64 0, .int .i64 0, .string (⟨#[]⟩ : ByteArray), .int .i64 0, .int .i64 0] 32 (0, 0))) ∧ Aside0 (Below w.heap.size w wc))
      case first =>
        have H := HC7.out
        clear HC7
        by_cases c9 : t145 = true
        · subst c9
          have H1 : (cohousingref07_Next.j0 k a0 a1 true false) = some (r1, r2, r3, r4, r5, r6, r7) := by rw [if_pos rfl] at H; exact H
          clear H
          have H := H1
          clear H1
          have H' := Aside0.mk H
          clear H
          go_wp2
          go_meet
          case rel => exact ⟨_, (false), (by first | rfl | (simp; done) | (simp [*]; done)), H', ⟨by first | omega | exact Nat.le_refl _⟩, ⟨by (with_reducible repeat (first | refine blk_drewN ?_ _ | refine blk_drew ?_ | refine blk_alloc ?_ _)); exact BK144.out⟩, ⟨by repeat (first | (with_reducible first | exact HB.out | apply below_alloc | apply pw_below_drewN | apply below_drew1 | refine below_set ?_ GE144.out) | exact HB.out)⟩⟩
        · replace c9 := Bool.eq_false_iff.mpr c9
          subst c9
          have H1 : ((cohousingref07_Letter.f (bt a0 a1)).bind fun t146 => (cohousingref07_Next.j0 k a0 a1 false (!t146))) = some (r1, r2, r3, r4, r5, r6, r7) := by rw [if_neg (show ¬ (false = true) by decide)] at H; exact H
          clear H
          have H := H1
          clear H1
          replace H := Option.bind_eq_some_iff.mp H
          obtain ⟨t146, A110, H⟩ := H
          replace H : (cohousingref07_Next.j0 k a0 a1 false (!t146)) = some (r1, r2, r3, r4, r5, r6, r7) := H
          have A11 := Aside0.mk A110
          clear A110
          have H' := Aside0.mk H
          clear H
          have p10 : 0 ≤ (a1 : Int) := of_decide_eq_true (by first | (with_reducible assumption) | assumption)
          have q10 : a1 < (a0.size : Int) := of_decide_eq_true (by first | (with_reducible assumption) | assumption)
          have hx10 := bt_at a0 a1
          replace p10 := eq_true p10
          replace q10 := eq_true q10
          go_wp2_with (first | (go_at_call 35; (with_reducible refine (cohousingref07_Letter.calls (bt a0 a1) t146 _ A11.out).mono ?_); rintro e w' ⟨rfl, ⟨nd, rfl⟩⟩))
          go_meet
          case rel => exact ⟨_, (!t146), (by first | rfl | (simp; done) | (simp [*]; done)), H', ⟨by first | omega | exact Nat.le_refl _⟩, ⟨by (with_reducible repeat (first | refine blk_drewN ?_ _ | refine blk_drew ?_ | refine blk_alloc ?_ _)); exact BK144.out⟩, ⟨by repeat (first | (with_reducible first | exact HB.out | apply below_alloc | apply pw_below_drewN | apply below_drew1 | refine below_set ?_ GE144.out) | exact HB.out)⟩⟩
      case rest =>
        clear HC7
        try clear p1
        try clear q1
        try clear hx1
        try clear c2
        try clear p2
        try clear c3
        try clear c3b0
        try clear c4
        try clear c4b0
        try clear p5
        try clear q5
        try clear hx5
        try clear c9
        try clear p10
        try clear q10
        try clear hx10
        try clear p10
        try clear p5
        try clear q10
        try clear q5
        obtain ⟨kq, x24_6, rfl, HA, HJ6, BK144, HB⟩ := hcut
        cases kq with
        | zero => exact absurd HA.out (by simp [cohousingref07_Next.j0])
        | succ kj6 =>
          have H := HA.out
          clear HA
          simp only [cohousingref07_Next.j0] at H
          by_cases c12 : x24_6 = true
          · subst c12
            have H1 : (if 0 ≤ a1 then (if a1 ≤ (a0.size : Int) then ((cohousingref07_Sign.f kj6 (a0.extract (a1 : Int).toNat a0.size)).bind fun t147 => (if t147 = 0 then (some (0, 0, (⟨#[]⟩ : ByteArray), 0, 0, 0, 10)) else (if a1 ≤ (wrap64 (a1 + t147)) then (if (wrap64 (a1 + t147)) ≤ (a0.size : Int) then (some (3, a1, a0.extract (a1 : Int).toNat ((wrap64 (a1 + t147)) : Int).toNat, 0, 0, t147, 0)) else (none)) else (none)))) else (none)) else (none)) = some (r1, r2, r3, r4, r5, r6, r7) := by rw [if_pos rfl] at H; exact H
            clear H
            have H := H1
            clear H1
            by_cases c13 : 0 ≤ a1
            · rw [if_pos c13] at H
              have c13b0 := eq_true c13
              have c13b1 : decide (0 ≤ a1) = true := decide_eq_true c13
              clear c13
              by_cases c14 : a1 ≤ (a0.size : Int)
              · rw [if_pos c14] at H
                have c14b0 := eq_true c14
                have c14b1 : decide (a1 ≤ (a0.size : Int)) = true := decide_eq_true c14
                clear c14
                replace H := Option.bind_eq_some_iff.mp H
                obtain ⟨t147, A150, H⟩ := H
                replace H : (if t147 = 0 then (some (0, 0, (⟨#[]⟩ : ByteArray), 0, 0, 0, 10)) else (if a1 ≤ (wrap64 (a1 + t147)) then (if (wrap64 (a1 + t147)) ≤ (a0.size : Int) then (some (3, a1, a0.extract (a1 : Int).toNat ((wrap64 (a1 + t147)) : Int).toNat, 0, 0, t147, 0)) else (none)) else (none))) = some (r1, r2, r3, r4, r5, r6, r7) := H
                have A15 := Aside0.mk A150
                clear A150
                by_cases c16 : t147 = 0
                · rw [if_pos c16] at H
                  have c16b0 : (t147 == 0) = true := beq_iff_eq.mpr c16
                  have c16b1 : (t147 != 0) = false := bne_eq_false_iff_eq.mpr c16
                  clear c16
                  simp only [Option.some.injEq, Prod.mk.injEq] at H
                  obtain ⟨rfl, rfl, rfl, rfl, rfl, rfl, rfl⟩ := H
                  go_wp2_with (first | ((with_reducible refine gate_callee (f := 36) rfl ?_); refine goesL_ (some 28) rfl rfl Tryd.func36 (by kernel_rfl) rfl #[.string (a0.extract (a1 : Int).toNat a0.size)] rfl (by (try simp only [List.map_toArray, List.map_cons, List.map_nil]); first | done | rfl | (simp only [List.length_drop, List.length_take]; rfl)) ?_; (with_reducible refine (cohousingref07_Sign.calls kj6 (a0.extract (a1 : Int).toNat a0.size) t147 _ A15.out).mono ?_); rintro e w' ⟨rfl, ⟨nd, rfl⟩⟩; refine ⟨_, rfl, ?_⟩; (try (rw [drewN_self wc]; generalize hq_ : World.drewN wc _ = wc; have n0_ : Aside0 (wc.heap[gb144]? = some (.cells #[.int .i64 0, .int .i64 0, .string (⟨#[]⟩ : ByteArray), .int .i64 0, .int .i64 0] 32 (0, 0))) := ⟨by rw [← hq_]; exact (by (with_reducible repeat (first | refine blk_drewN ?_ _ | refine blk_drew ?_ | refine blk_alloc ?_ _)); exact BK144.out)⟩; have n1_ : Aside0 (Below w.heap.size w wc) := ⟨by rw [← hq_]; exact (by repeat (first | (with_reducible first | exact HB.out | apply below_alloc | apply pw_below_drewN | apply below_drew1 | refine below_set ?_ GE144.out) | exact HB.out))⟩; clear BK144 HB hq_; have BK144 := n0_; have HB := n1_; clear n0_ n1_)); have hcz17_0 : wc.cell? ⟨gb144, 0, none⟩ = some (.int .i64 0) := (blk_cell BK144.out 0).trans rfl; have hcz17_1 : wc.cell? ⟨gb144, 1, none⟩ = some (.int .i64 0) := (blk_cell BK144.out 1).trans rfl; have hcz17_2 : wc.cell? ⟨gb144, 2, none⟩ = some (.string (⟨#[]⟩ : ByteArray)) := (blk_cell BK144.out 2).trans rfl; have hcz17_3 : wc.cell? ⟨gb144, 3, none⟩ = some (.int .i64 0) := (blk_cell BK144.out 3).trans rfl; have hcz17_4 : wc.cell? ⟨gb144, 4, none⟩ = some (.int .i64 0) := (blk_cell BK144.out 4).trans rfl; have hfz17_0 := blk_frozen BK144.out 0; have hfz17_1 := blk_frozen BK144.out 1; have hfz17_2 := blk_frozen BK144.out 2; have hfz17_3 := blk_frozen BK144.out 3; have hfz17_4 := blk_frozen BK144.out 4))
                  refine bodyPost_ret (results_ctt rfl _ _ gb144 32 #[.int .i64 0, .int .i64 0, .string (⟨#[]⟩ : ByteArray), .int .i64 0, .int .i64 0] (0, 0) _ rfl (by (with_reducible repeat (first | refine blk_drewN ?_ _ | refine blk_drew ?_ | refine blk_alloc ?_ _)); refine blk_put (cs := #[.int .i64 0, .int .i64 0, .string (⟨#[]⟩ : ByteArray), .int .i64 0, .int .i64 0]) ?_ 4 _ rfl; (with_reducible repeat (first | refine blk_drewN ?_ _ | refine blk_drew ?_ | refine blk_alloc ?_ _)); refine blk_put (cs := #[.int .i64 0, .int .i64 0, .string (⟨#[]⟩ : ByteArray), .int .i64 0, .int .i64 0]) ?_ 3 _ rfl; (with_reducible repeat (first | refine blk_drewN ?_ _ | refine blk_drew ?_ | refine blk_alloc ?_ _)); refine blk_put (cs := #[.int .i64 0, .int .i64 0, .string (⟨#[]⟩ : ByteArray), .int .i64 0, .int .i64 0]) ?_ 2 _ rfl; (with_reducible repeat (first | refine blk_drewN ?_ _ | refine blk_drew ?_ | refine blk_alloc ?_ _)); refine blk_put (cs := #[.int .i64 0, .int .i64 0, .string (⟨#[]⟩ : ByteArray), .int .i64 0, .int .i64 0]) ?_ 1 _ rfl; (with_reducible repeat (first | refine blk_drewN ?_ _ | refine blk_drew ?_ | refine blk_alloc ?_ _)); refine blk_put (cs := #[.int .i64 0, .int .i64 0, .string (⟨#[]⟩ : ByteArray), .int .i64 0, .int .i64 0]) ?_ 0 _ rfl; (with_reducible repeat (first | refine blk_drewN ?_ _ | refine blk_drew ?_ | refine blk_alloc ?_ _)); exact BK144.out) Tryd.underlying32 rfl (by kernel_rfl)) rfl ?_
                  exact ⟨by first | rfl | (simp [errW_none, errW_some] <;> rfl) | (simp [*, errW_none, errW_some] <;> rfl), by repeat (first | (with_reducible first | exact HB.out | apply below_alloc | apply pw_below_drewN | apply below_drew1 | refine below_set ?_ GE144.out) | exact HB.out)⟩
                · rw [if_neg c16] at H
                  have c16b0 : (t147 == 0) = false := beq_eq_false_iff_ne.mpr c16
                  have c16b1 : (t147 != 0) = true := bne_iff_ne.mpr c16
                  have c18b0 := eq_true (of_decide_eq_true (by first | (with_reducible assumption) | assumption) : 0 ≤ a1)
                  by_cases c19 : a1 ≤ (wrap64 (a1 + t147))
                  · rw [if_pos c19] at H
                    have c19b0 := eq_true c19
                    have c19b1 : decide (a1 ≤ (wrap64 (a1 + t147))) = true := decide_eq_true c19
                    by_cases c20 : (wrap64 (a1 + t147)) ≤ (a0.size : Int)
                    · rw [if_pos c20] at H
                      have c20b0 := eq_true c20
                      have c20b1 : decide ((wrap64 (a1 + t147)) ≤ (a0.size : Int)) = true := decide_eq_true c20
                      simp only [Option.some.injEq, Prod.mk.injEq] at H
                      obtain ⟨rfl, rfl, rfl, rfl, rfl, rfl, rfl⟩ := H
                      go_wp2_with (first | ((with_reducible refine gate_callee (f := 36) rfl ?_); refine goesL_ (some 28) rfl rfl Tryd.func36 (by kernel_rfl) rfl #[.string (a0.extract (a1 : Int).toNat a0.size)] rfl (by (try simp only [List.map_toArray, List.map_cons, List.map_nil]); first | done | rfl | (simp only [List.length_drop, List.length_take]; rfl)) ?_; (with_reducible refine (cohousingref07_Sign.calls kj6 (a0.extract (a1 : Int).toNat a0.size) t147 _ A15.out).mono ?_); rintro e w' ⟨rfl, ⟨nd, rfl⟩⟩; refine ⟨_, rfl, ?_⟩; (try (rw [drewN_self wc]; generalize hq_ : World.drewN wc _ = wc; have n0_ : Aside0 (wc.heap[gb144]? = some (.cells #[.int .i64 0, .int .i64 0, .string (⟨#[]⟩ : ByteArray), .int .i64 0, .int .i64 0] 32 (0, 0))) := ⟨by rw [← hq_]; exact (by (with_reducible repeat (first | refine blk_drewN ?_ _ | refine blk_drew ?_ | refine blk_alloc ?_ _)); exact BK144.out)⟩; have n1_ : Aside0 (Below w.heap.size w wc) := ⟨by rw [← hq_]; exact (by repeat (first | (with_reducible first | exact HB.out | apply below_alloc | apply pw_below_drewN | apply below_drew1 | refine below_set ?_ GE144.out) | exact HB.out))⟩; clear BK144 HB hq_; have BK144 := n0_; have HB := n1_; clear n0_ n1_)); have hcz21_0 : wc.cell? ⟨gb144, 0, none⟩ = some (.int .i64 0) := (blk_cell BK144.out 0).trans rfl; have hcz21_1 : wc.cell? ⟨gb144, 1, none⟩ = some (.int .i64 0) := (blk_cell BK144.out 1).trans rfl; have hcz21_2 : wc.cell? ⟨gb144, 2, none⟩ = some (.string (⟨#[]⟩ : ByteArray)) := (blk_cell BK144.out 2).trans rfl; have hcz21_3 : wc.cell? ⟨gb144, 3, none⟩ = some (.int .i64 0) := (blk_cell BK144.out 3).trans rfl; have hcz21_4 : wc.cell? ⟨gb144, 4, none⟩ = some (.int .i64 0) := (blk_cell BK144.out 4).trans rfl; have hfz21_0 := blk_frozen BK144.out 0; have hfz21_1 := blk_frozen BK144.out 1; have hfz21_2 := blk_frozen BK144.out 2; have hfz21_3 := blk_frozen BK144.out 3; have hfz21_4 := blk_frozen BK144.out 4))
                      refine bodyPost_ret (results_ctt rfl _ _ gb144 32 #[.int .i64 3, .int .i64 a1, .string (a0.extract (a1 : Int).toNat ((wrap64 (a1 + t147)) : Int).toNat), .int .i64 0, .int .i64 0] (0, 0) _ rfl (by (with_reducible repeat (first | refine blk_drewN ?_ _ | refine blk_drew ?_ | refine blk_alloc ?_ _)); refine blk_put (cs := #[.int .i64 3, .int .i64 a1, .string (a0.extract (a1 : Int).toNat ((wrap64 (a1 + t147)) : Int).toNat), .int .i64 0, .int .i64 0]) ?_ 4 _ rfl; (with_reducible repeat (first | refine blk_drewN ?_ _ | refine blk_drew ?_ | refine blk_alloc ?_ _)); refine blk_put (cs := #[.int .i64 3, .int .i64 a1, .string (a0.extract (a1 : Int).toNat ((wrap64 (a1 + t147)) : Int).toNat), .int .i64 0, .int .i64 0]) ?_ 3 _ rfl; (with_reducible repeat (first | refine blk_drewN ?_ _ | refine blk_drew ?_ | refine blk_alloc ?_ _)); refine blk_put (cs := #[.int .i64 3, .int .i64 a1, .string (⟨#[]⟩ : ByteArray), .int .i64 0, .int .i64 0]) ?_ 2 _ rfl; (with_reducible repeat (first | refine blk_drewN ?_ _ | refine blk_drew ?_ | refine blk_alloc ?_ _)); refine blk_put (cs := #[.int .i64 3, .int .i64 0, .string (⟨#[]⟩ : ByteArray), .int .i64 0, .int .i64 0]) ?_ 1 _ rfl; (with_reducible repeat (first | refine blk_drewN ?_ _ | refine blk_drew ?_ | refine blk_alloc ?_ _)); refine blk_put (cs := #[.int .i64 0, .int .i64 0, .string (⟨#[]⟩ : ByteArray), .int .i64 0, .int .i64 0]) ?_ 0 _ rfl; (with_reducible repeat (first | refine blk_drewN ?_ _ | refine blk_drew ?_ | refine blk_alloc ?_ _)); exact BK144.out) Tryd.underlying32 rfl (by kernel_rfl)) rfl ?_
                      exact ⟨by first | rfl | (simp [errW_none, errW_some] <;> rfl) | (simp [*, errW_none, errW_some] <;> rfl), by repeat (first | (with_reducible first | exact HB.out | apply below_alloc | apply pw_below_drewN | apply below_drew1 | refine below_set ?_ GE144.out) | exact HB.out)⟩
                    · rw [if_neg c20] at H
                      exact absurd H (by simp)
                  · rw [if_neg c19] at H
                    exact absurd H (by simp)
              · rw [if_neg c14] at H
                exact absurd H (by simp)
            · rw [if_neg c13] at H
              exact absurd H (by simp)
          · replace c12 := Bool.eq_false_iff.mpr c12
            subst c12
            have H1 : (cohousingref07_Next.l0 kj6 a0 a1 t145 0) = some (r1, r2, r3, r4, r5, r6, r7) := by rw [if_neg (show ¬ (false = true) by decide)] at H; exact H
            clear H
            have H := H1
            clear H1
            have HC22 := Aside0.mk H
            clear H
            go_upto_block 0 with (fail)
            go_cut [9] (fun v9 wc => ∃ (kq : Nat) (x9_21 : Int), v9 = .int .i64 x9_21 ∧ Aside0 (cohousingref07_Next.j2 kq a0 a1 t145 x9_21 = some (r1, r2, r3, r4, r5, r6, r7)) ∧ Aside0 (kq ≤ kj6) ∧ Aside0 (wc.heap[gb144]? = some (.cells #[.int .i64 0, .int .i64 0, .string (⟨#[]⟩ : ByteArray), .int .i64 0, .int .i64 0] 32 (0, 0))) ∧ Aside0 (Below w.heap.size w wc))
            case first =>
              have H := HC22.out
              clear HC22
              have H' := Aside0.mk H
              clear H
              go_wp2
              go_loopg [9] kj6 (fun kq v9 w' => ∃ (x9_2 : Int), v9 = .int .i64 x9_2 ∧ Aside0 (cohousingref07_Next.l0 kq a0 a1 t145 x9_2 = some (r1, r2, r3, r4, r5, r6, r7)) ∧ Aside0 (kq ≤ kj6) ∧ Aside0 (w'.heap[gb144]? = some (.cells #[.int .i64 0, .int .i64 0, .string (⟨#[]⟩ : ByteArray), .int .i64 0, .int .i64 0] 32 (0, 0))) ∧ Aside0 (Below w.heap.size w w'))
              case atStart => exact ⟨(0), (by first | rfl | (simp; done) | (simp [*]; done)), H', ⟨Nat.le_refl _⟩, ⟨by (with_reducible repeat (first | refine blk_drewN ?_ _ | refine blk_drew ?_ | refine blk_alloc ?_ _)); exact BK144.out⟩, ⟨by repeat (first | (with_reducible first | exact HB.out | apply below_alloc | apply pw_below_drewN | apply below_drew1 | refine below_set ?_ GE144.out) | exact HB.out)⟩⟩
              case round =>
                clear H'
                try clear c1
                try clear p1
                try clear q1
                try clear hx1
                try clear c2
                try clear p2
                try clear c3
                try clear c3b0
                try clear c4
                try clear c4b0
                try clear p5
                try clear q5
                try clear hx5
                try clear p6
                try clear c9
                try clear p10
                try clear q10
                try clear hx10
                try clear c12
                try clear c13
                try clear c13b0
                try clear c13b1
                try clear c14
                try clear c14b0
                try clear c14b1
                try clear c16
                try clear c16b0
                try clear c16b1
                try clear c18
                try clear c18b0
                try clear c19
                try clear c19b0
                try clear c19b1
                try clear c20
                try clear c20b0
                try clear c20b1
                try clear hcz17_0
                try clear hcz17_1
                try clear hcz17_2
                try clear hcz17_3
                try clear hcz17_4
                try clear hcz21_0
                try clear hcz21_1
                try clear hcz21_2
                try clear hcz21_3
                try clear hcz21_4
                try clear hfz17_0
                try clear hfz17_1
                try clear hfz17_2
                try clear hfz17_3
                try clear hfz17_4
                try clear hfz21_0
                try clear hfz21_1
                try clear hfz21_2
                try clear hfz21_3
                try clear hfz21_4
                try clear p1
                try clear p10
                try clear p2
                try clear p5
                try clear q1
                try clear q10
                try clear q5
                obtain ⟨x9_2, rfl, HA, HK2, BK144, HB⟩ := hrel
                cases gk with
                | zero => exact absurd HA.out (by simp [cohousingref07_Next.l0])
                | succ k2 =>
                  have H := HA.out
                  clear HA
                  simp only [cohousingref07_Next.l0] at H
                  by_cases c23 : (wrap64 (a1 + x9_2)) < (a0.size : Int)
                  · rw [if_pos c23] at H
                    have c23b0 : decide ((wrap64 (a1 + x9_2)) < (a0.size : Int)) = true := decide_eq_true c23
                    clear c23
                    (first | rw [c23b0] | (simp only [i64_w, i32_w]; rw [c23b0]) | skip)
                    obtain ⟨ji24, hji24⟩ : ∃ j_ : Int, (wrap64 (a1 + x9_2)) = j_ := ⟨_, rfl⟩
                    replace H : (if 0 ≤ (ji24) then ((cohousingref07_Part.f (bt a0 (ji24)) t145).bind fun t148 => (if t148 = true then (cohousingref07_Next.l0 k2 a0 a1 t145 (wrap64 (x9_2 + 1))) else (cohousingref07_Next.j2 k2 a0 a1 t145 x9_2))) else (none)) = some (r1, r2, r3, r4, r5, r6, r7) := by first | (rw [hji24] at H; exact H) | (simp only [hji24] at H ⊢; exact H)
                    (try rw [hji24] at c23b0)
                    have hji24w : (IntKind.i64.wrap (a1 + x9_2)) = ji24 := (i64_w _).trans hji24
                    by_cases c25 : 0 ≤ (ji24)
                    · rw [if_pos c25] at H
                      have c25b0 : decide (0 ≤ (ji24)) = true := decide_eq_true c25
                      clear c25
                      replace H := Option.bind_eq_some_iff.mp H
                      obtain ⟨t148, A270, H⟩ := H
                      replace H : (if t148 = true then (cohousingref07_Next.l0 k2 a0 a1 t145 (wrap64 (x9_2 + 1))) else (cohousingref07_Next.j2 k2 a0 a1 t145 x9_2)) = some (r1, r2, r3, r4, r5, r6, r7) := H
                      have A27 := Aside0.mk A270
                      clear A270
                      by_cases c28 : t148 = true
                      · subst c28
                        have H1 : (cohousingref07_Next.l0 k2 a0 a1 t145 (wrap64 (x9_2 + 1))) = some (r1, r2, r3, r4, r5, r6, r7) := by rw [if_pos rfl] at H; exact H
                        clear H
                        have H := H1
                        clear H1
                        have H' := Aside0.mk H
                        clear H
                        have p26 : 0 ≤ ((ji24) : Int) := of_decide_eq_true (by first | (with_reducible assumption) | assumption)
                        have q26 : (ji24) < (a0.size : Int) := of_decide_eq_true (by first | (with_reducible assumption) | assumption)
                        have hx26 := bt_at a0 (ji24)
                        replace p26 := eq_true p26
                        replace q26 := eq_true q26
                        go_wp2_with (first | (go_at_call 37; (with_reducible refine (cohousingref07_Part.calls (bt a0 (ji24)) t145 true _ A27.out).mono ?_); rintro e w' ⟨rfl, ⟨nd, rfl⟩⟩))
                        go_roundg k2
                        case measure => have := HJ6.out; have := HK2.out; omega
                        case rel => exact ⟨(wrap64 (x9_2 + 1)), (by first | rfl | (simp; done) | (simp [*]; done)), H', ⟨by have := HJ6.out; have := HK2.out; omega⟩, ⟨by (with_reducible repeat (first | refine blk_drewN ?_ _ | refine blk_drew ?_ | refine blk_alloc ?_ _)); exact BK144.out⟩, ⟨by repeat (first | (with_reducible first | exact HB.out | apply below_alloc | apply pw_below_drewN | apply below_drew1 | refine below_set ?_ GE144.out) | exact HB.out)⟩⟩
                      · replace c28 := Bool.eq_false_iff.mpr c28
                        subst c28
                        have H1 : (cohousingref07_Next.j2 k2 a0 a1 t145 x9_2) = some (r1, r2, r3, r4, r5, r6, r7) := by rw [if_neg (show ¬ (false = true) by decide)] at H; exact H
                        clear H
                        have H := H1
                        clear H1
                        have H' := Aside0.mk H
                        clear H
                        have p26 : 0 ≤ ((ji24) : Int) := of_decide_eq_true (by first | (with_reducible assumption) | assumption)
                        have q26 : (ji24) < (a0.size : Int) := of_decide_eq_true (by first | (with_reducible assumption) | assumption)
                        have hx26 := bt_at a0 (ji24)
                        replace p26 := eq_true p26
                        replace q26 := eq_true q26
                        go_wp2_with (first | (go_at_call 37; (with_reducible refine (cohousingref07_Part.calls (bt a0 (ji24)) t145 false _ A27.out).mono ?_); rintro e w' ⟨rfl, ⟨nd, rfl⟩⟩))
                        go_meet
                        case rel => exact ⟨_, (x9_2), (by first | rfl | (simp; done) | (simp [*]; done)), H', ⟨by have := HJ6.out; have := HK2.out; first | omega | exact Nat.le_refl _⟩, ⟨by (with_reducible repeat (first | refine blk_drewN ?_ _ | refine blk_drew ?_ | refine blk_alloc ?_ _)); exact BK144.out⟩, ⟨by repeat (first | (with_reducible first | exact HB.out | apply below_alloc | apply pw_below_drewN | apply below_drew1 | refine below_set ?_ GE144.out) | exact HB.out)⟩⟩
                    · rw [if_neg c25] at H
                      exact absurd H (by simp)
                  · rw [if_neg c23] at H
                    have c23b0 : decide ((wrap64 (a1 + x9_2)) < (a0.size : Int)) = false := decide_eq_false c23
                    clear c23
                    (first | rw [c23b0] | (simp only [i64_w, i32_w]; rw [c23b0]) | skip)
                    have H' := Aside0.mk H
                    clear H
                    go_wp2
                    go_meet
                    case rel => exact ⟨_, (x9_2), (by first | rfl | (simp; done) | (simp [*]; done)), H', ⟨by have := HJ6.out; have := HK2.out; first | omega | exact Nat.le_refl _⟩, ⟨by (with_reducible repeat (first | refine blk_drewN ?_ _ | refine blk_drew ?_ | refine blk_alloc ?_ _)); exact BK144.out⟩, ⟨by repeat (first | (with_reducible first | exact HB.out | apply below_alloc | apply pw_below_drewN | apply below_drew1 | refine below_set ?_ GE144.out) | exact HB.out)⟩⟩
            case rest =>
              clear HC22
              try clear c1
              try clear p1
              try clear q1
              try clear hx1
              try clear c2
              try clear p2
              try clear q2
              try clear hx2
              try clear c3
              try clear c3b0
              try clear c4
              try clear c4b0
              try clear p5
              try clear q5
              try clear hx5
              try clear p6
              try clear c9
              try clear p10
              try clear q10
              try clear hx10
              try clear c12
              try clear c13
              try clear c13b0
              try clear c13b1
              try clear c14
              try clear c14b0
              try clear c14b1
              try clear c16
              try clear c16b0
              try clear c16b1
              try clear c18
              try clear c18b0
              try clear c19
              try clear c19b0
              try clear c19b1
              try clear c20
              try clear c20b0
              try clear c20b1
              try clear c23
              try clear c23b0
              try clear c25
              try clear c25b0
              try clear p26
              try clear q26
              try clear hx26
              try clear c28
              try clear hcz17_0
              try clear hcz17_1
              try clear hcz17_2
              try clear hcz17_3
              try clear hcz17_4
              try clear hcz21_0
              try clear hcz21_1
              try clear hcz21_2
              try clear hcz21_3
              try clear hcz21_4
              try clear hfz17_0
              try clear hfz17_1
              try clear hfz17_2
              try clear hfz17_3
              try clear hfz17_4
              try clear hfz21_0
              try clear hfz21_1
              try clear hfz21_2
              try clear hfz21_3
              try clear hfz21_4
              try clear p1
              try clear p10
              try clear p2
              try clear p26
              try clear p5
              try clear p6
              try clear q1
              try clear q10
              try clear q26
              try clear q5
              obtain ⟨kq, x9_21, rfl, HA, HJ21, BK144, HB⟩ := hcut
              cases kq with
              | zero => exact absurd HA.out (by simp [cohousingref07_Next.j2])
              | succ kj21 =>
                have H := HA.out
                clear HA
                simp only [cohousingref07_Next.j2] at H
                by_cases c29 : t145 = true
                · subst c29
                  have H1 : (if 0 ≤ a1 then (if a1 ≤ (wrap64 (a1 + x9_21)) then (if (wrap64 (a1 + x9_21)) ≤ (a0.size : Int) then ((cohousingref07_Value.f kj21 (a0.extract (a1 : Int).toNat ((wrap64 (a1 + x9_21)) : Int).toNat)).bind fun bt149 => (if bt149.2.2 = 0 then (some (2, a1, (⟨#[]⟩ : ByteArray), bt149.1, bt149.2.1, x9_21, 0)) else (some (0, 0, (⟨#[]⟩ : ByteArray), 0, 0, 0, bt149.2.2)))) else (none)) else (none)) else (none)) = some (r1, r2, r3, r4, r5, r6, r7) := by rw [if_pos rfl] at H; exact H
                  clear H
                  have H := H1
                  clear H1
                  by_cases c30 : 0 ≤ a1
                  · rw [if_pos c30] at H
                    have c30b0 := eq_true c30
                    have c30b1 : decide (0 ≤ a1) = true := decide_eq_true c30
                    clear c30
                    by_cases c31 : a1 ≤ (wrap64 (a1 + x9_21))
                    · rw [if_pos c31] at H
                      have c31b0 := eq_true c31
                      have c31b1 : decide (a1 ≤ (wrap64 (a1 + x9_21))) = true := decide_eq_true c31
                      by_cases c32 : (wrap64 (a1 + x9_21)) ≤ (a0.size : Int)
                      · rw [if_pos c32] at H
                        have c32b0 := eq_true c32
                        have c32b1 : decide ((wrap64 (a1 + x9_21)) ≤ (a0.size : Int)) = true := decide_eq_true c32
                        replace H := Option.bind_eq_some_iff.mp H
                        obtain ⟨⟨t149, t150, t151⟩, A330, H⟩ := H
                        replace H : (if t151 = 0 then (some (2, a1, (⟨#[]⟩ : ByteArray), t149, t150, x9_21, 0)) else (some (0, 0, (⟨#[]⟩ : ByteArray), 0, 0, 0, t151))) = some (r1, r2, r3, r4, r5, r6, r7) := H
                        have A33 := Aside0.mk A330
                        clear A330
                        by_cases c34 : t151 = 0
                        · rw [if_pos c34] at H
                          have c34b0 : (t151 == 0) = true := beq_iff_eq.mpr c34
                          have c34b1 : (t151 != 0) = false := bne_eq_false_iff_eq.mpr c34
                          clear c34
                          simp only [Option.some.injEq, Prod.mk.injEq] at H
                          obtain ⟨rfl, rfl, rfl, rfl, rfl, rfl, rfl⟩ := H
                          go_wp2_with (first | ((with_reducible refine gate_callee (f := 38) rfl ?_); refine goesL_ (some 79) rfl rfl Tryd.func38 (by kernel_rfl) rfl #[.string (a0.extract (a1 : Int).toNat ((wrap64 (a1 + x9_21)) : Int).toNat)] rfl (by (try simp only [List.map_toArray, List.map_cons, List.map_nil]); first | done | rfl | (simp only [List.length_drop, List.length_take]; rfl)) ?_; (with_reducible refine (cohousingref07_Value.calls kj21 (a0.extract (a1 : Int).toNat ((wrap64 (a1 + x9_21)) : Int).toNat) t149 t150 t151 _ A33.out).mono ?_); rintro e w35 ⟨rfl, hb⟩; refine ⟨_, rfl, ?_⟩; have n0_ := Aside0.mk (blk_below (g := gb144) (o := .cells #[.int .i64 0, .int .i64 0, .string (⟨#[]⟩ : ByteArray), .int .i64 0, .int .i64 0] 32 (0, 0)) (by (with_reducible repeat (first | refine blk_drewN ?_ _ | refine blk_drew ?_ | refine blk_alloc ?_ _)); exact BK144.out) hb); have n1_ := Aside0.mk (below_step (by repeat (first | (with_reducible first | exact HB.out | apply below_alloc | apply pw_below_drewN | apply below_drew1 | refine below_set ?_ GE144.out) | exact HB.out)) hb); clear BK144; clear HB; have BK144 := n0_; have HB := n1_; clear n0_ n1_; (try clear hb); (try clear hb2); (try clear hk); (try clear hi)) | ((with_reducible refine gate_dst (N := 10) rfl ?_); refine box_event ?hg (N := 10) ?hd (cs := #[.int .i64 0, .int .i64 0]) (t := 30) ?hr ?_; (case hd => rfl); (case hg => rfl); (case hr => first | (go_simp; done) | (go_simp; rfl)); intro gb152 hg w36 hbox hb; have n0_ := Aside0.mk (blk_below (g := gb144) (o := .cells #[.int .i64 0, .int .i64 0, .string (⟨#[]⟩ : ByteArray), .int .i64 0, .int .i64 0] 32 (0, 0)) (by (with_reducible repeat (first | refine blk_drewN ?_ _ | refine blk_drew ?_ | refine blk_alloc ?_ _)); exact BK144.out) hb); have n1_ := Aside0.mk (below_step (by repeat (first | (with_reducible first | exact HB.out | apply below_alloc | apply pw_below_drewN | apply below_drew1 | refine below_set ?_ GE144.out) | exact HB.out)) hb); have n2_ := Aside0.mk (hbox); have n3_ := Aside0.mk ((by rw [hg]; exact (below_size (by repeat (first | (with_reducible first | exact HB.out | apply below_alloc | apply pw_below_drewN | apply below_drew1 | refine below_set ?_ GE144.out) | exact HB.out))) : w.heap.size ≤ gb152)); have n4_ := Aside0.mk ((by rw [hg]; exact (below_size (by repeat (first | (with_reducible first | exact HB.out | apply below_alloc | apply pw_below_drewN | apply below_drew1 | refine below_set ?_ GE144.out) | exact HB.out))) : w.heap.size ≤ gb152)); have n5_ := Aside0.mk ((by rw [hg]; exact Nat.ne_of_lt (blk_lt (g := gb144) (o := .cells #[.int .i64 0, .int .i64 0, .string (⟨#[]⟩ : ByteArray), .int .i64 0, .int .i64 0] 32 (0, 0)) (by (with_reducible repeat (first | refine blk_drewN ?_ _ | refine blk_drew ?_ | refine blk_alloc ?_ _)); exact BK144.out)) : gb144 ≠ gb152)); have n6_ := Aside0.mk ((by rw [hg]; exact Nat.ne_of_gt (blk_lt (g := gb144) (o := .cells #[.int .i64 0, .int .i64 0, .string (⟨#[]⟩ : ByteArray), .int .i64 0, .int .i64 0] 32 (0, 0)) (by (with_reducible repeat (first | refine blk_drewN ?_ _ | refine blk_drew ?_ | refine blk_alloc ?_ _)); exact BK144.out)) : gb152 ≠ gb144)); clear BK144; clear HB; have BK144 := n0_; have HB := n1_; have BK152 := n2_; have GW152 := n3_; have GE152 := n4_; have NB144_152 := n5_; have NB152_144 := n6_; clear n0_ n1_ n2_ n3_ n4_ n5_ n6_; clear hb hbox hg; have hnb37 := NB152_144.out; have hnc37 := NB144_152.out; have hcz38_0 : w36.cell? ⟨gb152, 0, none⟩ = some (.int .i64 0) := (blk_cell BK152.out 0).trans rfl; have hcz38_1 : w36.cell? ⟨gb152, 1, none⟩ = some (.int .i64 0) := (blk_cell BK152.out 1).trans rfl; have hfz38_0 := blk_frozen BK152.out 0; have hfz38_1 := blk_frozen BK152.out 1; have hcz39_0 : w36.cell? ⟨gb144, 0, none⟩ = some (.int .i64 0) := (blk_cell BK144.out 0).trans rfl; have hcz39_1 : w36.cell? ⟨gb144, 1, none⟩ = some (.int .i64 0) := (blk_cell BK144.out 1).trans rfl; have hcz39_2 : w36.cell? ⟨gb144, 2, none⟩ = some (.string (⟨#[]⟩ : ByteArray)) := (blk_cell BK144.out 2).trans rfl; have hcz39_3 : w36.cell? ⟨gb144, 3, none⟩ = some (.int .i64 0) := (blk_cell BK144.out 3).trans rfl; have hcz39_4 : w36.cell? ⟨gb144, 4, none⟩ = some (.int .i64 0) := (blk_cell BK144.out 4).trans rfl; have hfz39_0 := blk_frozen BK144.out 0; have hfz39_1 := blk_frozen BK144.out 1; have hfz39_2 := blk_frozen BK144.out 2; have hfz39_3 := blk_frozen BK144.out 3; have hfz39_4 := blk_frozen BK144.out 4))
                          refine bodyPost_ret (results_ctt rfl _ _ gb144 32 #[.int .i64 2, .int .i64 a1, .string (⟨#[]⟩ : ByteArray), .int .i64 t149, .int .i64 t150] (0, 0) _ rfl (by (with_reducible repeat (first | refine blk_drewN ?_ _ | refine blk_drew ?_ | refine blk_alloc ?_ _)); refine blk_put (cs := #[.int .i64 2, .int .i64 a1, .string (⟨#[]⟩ : ByteArray), .int .i64 t149, .int .i64 0]) ?_ 4 _ rfl; (with_reducible repeat (first | refine blk_drewN ?_ _ | refine blk_drew ?_ | refine blk_alloc ?_ _)); refine blk_put (cs := #[.int .i64 2, .int .i64 a1, .string (⟨#[]⟩ : ByteArray), .int .i64 0, .int .i64 0]) ?_ 3 _ rfl; (with_reducible repeat (first | refine blk_drewN ?_ _ | refine blk_drew ?_ | refine blk_alloc ?_ _)); refine blk_put (cs := #[.int .i64 2, .int .i64 a1, .string (⟨#[]⟩ : ByteArray), .int .i64 0, .int .i64 0]) ?_ 2 _ rfl; (with_reducible repeat (first | refine blk_drewN ?_ _ | refine blk_drew ?_ | refine blk_alloc ?_ _)); refine blk_put (cs := #[.int .i64 2, .int .i64 0, .string (⟨#[]⟩ : ByteArray), .int .i64 0, .int .i64 0]) ?_ 1 _ rfl; (with_reducible repeat (first | refine blk_drewN ?_ _ | refine blk_drew ?_ | refine blk_alloc ?_ _)); refine blk_put (cs := #[.int .i64 0, .int .i64 0, .string (⟨#[]⟩ : ByteArray), .int .i64 0, .int .i64 0]) ?_ 0 _ rfl; (with_reducible repeat (first | refine blk_drewN ?_ _ | refine blk_drew ?_ | refine blk_alloc ?_ _)); refine blk_far ?_ NB144_152.out _; (with_reducible repeat (first | refine blk_drewN ?_ _ | refine blk_drew ?_ | refine blk_alloc ?_ _)); refine blk_far ?_ NB144_152.out _; (with_reducible repeat (first | refine blk_drewN ?_ _ | refine blk_drew ?_ | refine blk_alloc ?_ _)); exact BK144.out) Tryd.underlying32 rfl (by kernel_rfl)) rfl ?_
                          exact ⟨by first | rfl | (simp [errW_none, errW_some] <;> rfl) | (simp [*, errW_none, errW_some] <;> rfl), by repeat (first | (with_reducible first | exact HB.out | apply below_alloc | apply pw_below_drewN | apply below_drew1 | refine below_set ?_ GE144.out | refine below_set ?_ GE152.out) | exact HB.out)⟩
                        · rw [if_neg c34] at H
                          have c34b0 : (t151 == 0) = false := beq_eq_false_iff_ne.mpr c34
                          have c34b1 : (t151 != 0) = true := bne_iff_ne.mpr c34
                          simp only [Option.some.injEq, Prod.mk.injEq] at H
                          obtain ⟨rfl, rfl, rfl, rfl, rfl, rfl, rfl⟩ := H
                          go_wp2_with (first | ((with_reducible refine gate_callee (f := 38) rfl ?_); refine goesL_ (some 79) rfl rfl Tryd.func38 (by kernel_rfl) rfl #[.string (a0.extract (a1 : Int).toNat ((wrap64 (a1 + x9_21)) : Int).toNat)] rfl (by (try simp only [List.map_toArray, List.map_cons, List.map_nil]); first | done | rfl | (simp only [List.length_drop, List.length_take]; rfl)) ?_; (with_reducible refine (cohousingref07_Value.calls kj21 (a0.extract (a1 : Int).toNat ((wrap64 (a1 + x9_21)) : Int).toNat) t149 t150 t151 _ A33.out).mono ?_); rintro e w40 ⟨rfl, hb⟩; refine ⟨_, rfl, ?_⟩; have n0_ := Aside0.mk (blk_below (g := gb144) (o := .cells #[.int .i64 0, .int .i64 0, .string (⟨#[]⟩ : ByteArray), .int .i64 0, .int .i64 0] 32 (0, 0)) (by (with_reducible repeat (first | refine blk_drewN ?_ _ | refine blk_drew ?_ | refine blk_alloc ?_ _)); exact BK144.out) hb); have n1_ := Aside0.mk (below_step (by repeat (first | (with_reducible first | exact HB.out | apply below_alloc | apply pw_below_drewN | apply below_drew1 | refine below_set ?_ GE144.out) | exact HB.out)) hb); clear BK144; clear HB; have BK144 := n0_; have HB := n1_; clear n0_ n1_; (try clear hb); (try clear hb2); (try clear hk); (try clear hi)) | ((with_reducible refine gate_dst (N := 10) rfl ?_); refine box_event ?hg (N := 10) ?hd (cs := #[.int .i64 0, .int .i64 0]) (t := 30) ?hr ?_; (case hd => rfl); (case hg => rfl); (case hr => first | (go_simp; done) | (go_simp; rfl)); intro gb152 hg w41 hbox hb; have n0_ := Aside0.mk (blk_below (g := gb144) (o := .cells #[.int .i64 0, .int .i64 0, .string (⟨#[]⟩ : ByteArray), .int .i64 0, .int .i64 0] 32 (0, 0)) (by (with_reducible repeat (first | refine blk_drewN ?_ _ | refine blk_drew ?_ | refine blk_alloc ?_ _)); exact BK144.out) hb); have n1_ := Aside0.mk (below_step (by repeat (first | (with_reducible first | exact HB.out | apply below_alloc | apply pw_below_drewN | apply below_drew1 | refine below_set ?_ GE144.out) | exact HB.out)) hb); have n2_ := Aside0.mk (hbox); have n3_ := Aside0.mk ((by rw [hg]; exact (below_size (by repeat (first | (with_reducible first | exact HB.out | apply below_alloc | apply pw_below_drewN | apply below_drew1 | refine below_set ?_ GE144.out) | exact HB.out))) : w.heap.size ≤ gb152)); have n4_ := Aside0.mk ((by rw [hg]; exact (below_size (by repeat (first | (with_reducible first | exact HB.out | apply below_alloc | apply pw_below_drewN | apply below_drew1 | refine below_set ?_ GE144.out) | exact HB.out))) : w.heap.size ≤ gb152)); have n5_ := Aside0.mk ((by rw [hg]; exact Nat.ne_of_lt (blk_lt (g := gb144) (o := .cells #[.int .i64 0, .int .i64 0, .string (⟨#[]⟩ : ByteArray), .int .i64 0, .int .i64 0] 32 (0, 0)) (by (with_reducible repeat (first | refine blk_drewN ?_ _ | refine blk_drew ?_ | refine blk_alloc ?_ _)); exact BK144.out)) : gb144 ≠ gb152)); have n6_ := Aside0.mk ((by rw [hg]; exact Nat.ne_of_gt (blk_lt (g := gb144) (o := .cells #[.int .i64 0, .int .i64 0, .string (⟨#[]⟩ : ByteArray), .int .i64 0, .int .i64 0] 32 (0, 0)) (by (with_reducible repeat (first | refine blk_drewN ?_ _ | refine blk_drew ?_ | refine blk_alloc ?_ _)); exact BK144.out)) : gb152 ≠ gb144)); clear BK144; clear HB; have BK144 := n0_; have HB := n1_; have BK152 := n2_; have GW152 := n3_; have GE152 := n4_; have NB144_152 := n5_; have NB152_144 := n6_; clear n0_ n1_ n2_ n3_ n4_ n5_ n6_; clear hb hbox hg; have hnb42 := NB152_144.out; have hnc42 := NB144_152.out; have hcz43_0 : w41.cell? ⟨gb152, 0, none⟩ = some (.int .i64 0) := (blk_cell BK152.out 0).trans rfl; have hcz43_1 : w41.cell? ⟨gb152, 1, none⟩ = some (.int .i64 0) := (blk_cell BK152.out 1).trans rfl; have hfz43_0 := blk_frozen BK152.out 0; have hfz43_1 := blk_frozen BK152.out 1; have hcz44_0 : w41.cell? ⟨gb144, 0, none⟩ = some (.int .i64 0) := (blk_cell BK144.out 0).trans rfl; have hcz44_1 : w41.cell? ⟨gb144, 1, none⟩ = some (.int .i64 0) := (blk_cell BK144.out 1).trans rfl; have hcz44_2 : w41.cell? ⟨gb144, 2, none⟩ = some (.string (⟨#[]⟩ : ByteArray)) := (blk_cell BK144.out 2).trans rfl; have hcz44_3 : w41.cell? ⟨gb144, 3, none⟩ = some (.int .i64 0) := (blk_cell BK144.out 3).trans rfl; have hcz44_4 : w41.cell? ⟨gb144, 4, none⟩ = some (.int .i64 0) := (blk_cell BK144.out 4).trans rfl; have hfz44_0 := blk_frozen BK144.out 0; have hfz44_1 := blk_frozen BK144.out 1; have hfz44_2 := blk_frozen BK144.out 2; have hfz44_3 := blk_frozen BK144.out 3; have hfz44_4 := blk_frozen BK144.out 4))
                          refine bodyPost_ret (results_ctt rfl _ _ gb144 32 #[.int .i64 0, .int .i64 0, .string (⟨#[]⟩ : ByteArray), .int .i64 0, .int .i64 0] (0, 0) _ rfl (by (with_reducible repeat (first | refine blk_drewN ?_ _ | refine blk_drew ?_ | refine blk_alloc ?_ _)); refine blk_put (cs := #[.int .i64 0, .int .i64 0, .string (⟨#[]⟩ : ByteArray), .int .i64 0, .int .i64 0]) ?_ 4 _ rfl; (with_reducible repeat (first | refine blk_drewN ?_ _ | refine blk_drew ?_ | refine blk_alloc ?_ _)); refine blk_put (cs := #[.int .i64 0, .int .i64 0, .string (⟨#[]⟩ : ByteArray), .int .i64 0, .int .i64 0]) ?_ 3 _ rfl; (with_reducible repeat (first | refine blk_drewN ?_ _ | refine blk_drew ?_ | refine blk_alloc ?_ _)); refine blk_put (cs := #[.int .i64 0, .int .i64 0, .string (⟨#[]⟩ : ByteArray), .int .i64 0, .int .i64 0]) ?_ 2 _ rfl; (with_reducible repeat (first | refine blk_drewN ?_ _ | refine blk_drew ?_ | refine blk_alloc ?_ _)); refine blk_put (cs := #[.int .i64 0, .int .i64 0, .string (⟨#[]⟩ : ByteArray), .int .i64 0, .int .i64 0]) ?_ 1 _ rfl; (with_reducible repeat (first | refine blk_drewN ?_ _ | refine blk_drew ?_ | refine blk_alloc ?_ _)); refine blk_put (cs := #[.int .i64 0, .int .i64 0, .string (⟨#[]⟩ : ByteArray), .int .i64 0, .int .i64 0]) ?_ 0 _ rfl; (with_reducible repeat (first | refine blk_drewN ?_ _ | refine blk_drew ?_ | refine blk_alloc ?_ _)); refine blk_far ?_ NB144_152.out _; (with_reducible repeat (first | refine blk_drewN ?_ _ | refine blk_drew ?_ | refine blk_alloc ?_ _)); refine blk_far ?_ NB144_152.out _; (with_reducible repeat (first | refine blk_drewN ?_ _ | refine blk_drew ?_ | refine blk_alloc ?_ _)); exact BK144.out) Tryd.underlying32 rfl (by kernel_rfl)) rfl ?_
                          exact ⟨by first | rfl | (simp [errW_none, errW_some] <;> rfl) | (simp [*, errW_none, errW_some] <;> rfl), by repeat (first | (with_reducible first | exact HB.out | apply below_alloc | apply pw_below_drewN | apply below_drew1 | refine below_set ?_ GE144.out | refine below_set ?_ GE152.out) | exact HB.out)⟩
                      · rw [if_neg c32] at H
                        exact absurd H (by simp)
                    · rw [if_neg c31] at H
                      exact absurd H (by simp)
                  · rw [if_neg c30] at H
                    exact absurd H (by simp)
                · replace c29 := Bool.eq_false_iff.mpr c29
                  subst c29
                  have H1 : (if x9_21 > 16 then (some (0, 0, (⟨#[]⟩ : ByteArray), 0, 0, 0, 2)) else (if 0 ≤ a1 then (if a1 ≤ (wrap64 (a1 + x9_21)) then (if (wrap64 (a1 + x9_21)) ≤ (a0.size : Int) then (some (1, a1, a0.extract (a1 : Int).toNat ((wrap64 (a1 + x9_21)) : Int).toNat, 0, 0, x9_21, 0)) else (none)) else (none)) else (none))) = some (r1, r2, r3, r4, r5, r6, r7) := by rw [if_neg (show ¬ (false = true) by decide)] at H; exact H
                  clear H
                  have H := H1
                  clear H1
                  by_cases c45 : x9_21 > 16
                  · rw [if_pos c45] at H
                    have c45b0 : decide (16 < x9_21) = true := decide_eq_true c45
                    clear c45
                    simp only [Option.some.injEq, Prod.mk.injEq] at H
                    obtain ⟨rfl, rfl, rfl, rfl, rfl, rfl, rfl⟩ := H
                    have hcz46_0 : wc.cell? ⟨gb144, 0, none⟩ = some (.int .i64 0) := (blk_cell BK144.out 0).trans rfl
                    have hcz46_1 : wc.cell? ⟨gb144, 1, none⟩ = some (.int .i64 0) := (blk_cell BK144.out 1).trans rfl
                    have hcz46_2 : wc.cell? ⟨gb144, 2, none⟩ = some (.string (⟨#[]⟩ : ByteArray)) := (blk_cell BK144.out 2).trans rfl
                    have hcz46_3 : wc.cell? ⟨gb144, 3, none⟩ = some (.int .i64 0) := (blk_cell BK144.out 3).trans rfl
                    have hcz46_4 : wc.cell? ⟨gb144, 4, none⟩ = some (.int .i64 0) := (blk_cell BK144.out 4).trans rfl
                    have hfz46_0 := blk_frozen BK144.out 0
                    have hfz46_1 := blk_frozen BK144.out 1
                    have hfz46_2 := blk_frozen BK144.out 2
                    have hfz46_3 := blk_frozen BK144.out 3
                    have hfz46_4 := blk_frozen BK144.out 4
                    go_wp2
                    refine bodyPost_ret (results_ctt rfl _ _ gb144 32 #[.int .i64 0, .int .i64 0, .string (⟨#[]⟩ : ByteArray), .int .i64 0, .int .i64 0] (0, 0) _ rfl (by (with_reducible repeat (first | refine blk_drewN ?_ _ | refine blk_drew ?_ | refine blk_alloc ?_ _)); refine blk_put (cs := #[.int .i64 0, .int .i64 0, .string (⟨#[]⟩ : ByteArray), .int .i64 0, .int .i64 0]) ?_ 4 _ rfl; (with_reducible repeat (first | refine blk_drewN ?_ _ | refine blk_drew ?_ | refine blk_alloc ?_ _)); refine blk_put (cs := #[.int .i64 0, .int .i64 0, .string (⟨#[]⟩ : ByteArray), .int .i64 0, .int .i64 0]) ?_ 3 _ rfl; (with_reducible repeat (first | refine blk_drewN ?_ _ | refine blk_drew ?_ | refine blk_alloc ?_ _)); refine blk_put (cs := #[.int .i64 0, .int .i64 0, .string (⟨#[]⟩ : ByteArray), .int .i64 0, .int .i64 0]) ?_ 2 _ rfl; (with_reducible repeat (first | refine blk_drewN ?_ _ | refine blk_drew ?_ | refine blk_alloc ?_ _)); refine blk_put (cs := #[.int .i64 0, .int .i64 0, .string (⟨#[]⟩ : ByteArray), .int .i64 0, .int .i64 0]) ?_ 1 _ rfl; (with_reducible repeat (first | refine blk_drewN ?_ _ | refine blk_drew ?_ | refine blk_alloc ?_ _)); refine blk_put (cs := #[.int .i64 0, .int .i64 0, .string (⟨#[]⟩ : ByteArray), .int .i64 0, .int .i64 0]) ?_ 0 _ rfl; (with_reducible repeat (first | refine blk_drewN ?_ _ | refine blk_drew ?_ | refine blk_alloc ?_ _)); exact BK144.out) Tryd.underlying32 rfl (by kernel_rfl)) rfl ?_
                    exact ⟨by first | rfl | (simp [errW_none, errW_some] <;> rfl) | (simp [*, errW_none, errW_some] <;> rfl), by repeat (first | (with_reducible first | exact HB.out | apply below_alloc | apply pw_below_drewN | apply below_drew1 | refine below_set ?_ GE144.out) | exact HB.out)⟩
                  · rw [if_neg c45] at H
                    have c45b0 : decide (16 < x9_21) = false := decide_eq_false c45
                    clear c45
                    by_cases c47 : 0 ≤ a1
                    · rw [if_pos c47] at H
                      have c47b0 := eq_true c47
                      have c47b1 : decide (0 ≤ a1) = true := decide_eq_true c47
                      clear c47
                      by_cases c48 : a1 ≤ (wrap64 (a1 + x9_21))
                      · rw [if_pos c48] at H
                        have c48b0 := eq_true c48
                        have c48b1 : decide (a1 ≤ (wrap64 (a1 + x9_21))) = true := decide_eq_true c48
                        by_cases c49 : (wrap64 (a1 + x9_21)) ≤ (a0.size : Int)
                        · rw [if_pos c49] at H
                          have c49b0 := eq_true c49
                          have c49b1 : decide ((wrap64 (a1 + x9_21)) ≤ (a0.size : Int)) = true := decide_eq_true c49
                          simp only [Option.some.injEq, Prod.mk.injEq] at H
                          obtain ⟨rfl, rfl, rfl, rfl, rfl, rfl, rfl⟩ := H
                          have hcz50_0 : wc.cell? ⟨gb144, 0, none⟩ = some (.int .i64 0) := (blk_cell BK144.out 0).trans rfl
                          have hcz50_1 : wc.cell? ⟨gb144, 1, none⟩ = some (.int .i64 0) := (blk_cell BK144.out 1).trans rfl
                          have hcz50_2 : wc.cell? ⟨gb144, 2, none⟩ = some (.string (⟨#[]⟩ : ByteArray)) := (blk_cell BK144.out 2).trans rfl
                          have hcz50_3 : wc.cell? ⟨gb144, 3, none⟩ = some (.int .i64 0) := (blk_cell BK144.out 3).trans rfl
                          have hcz50_4 : wc.cell? ⟨gb144, 4, none⟩ = some (.int .i64 0) := (blk_cell BK144.out 4).trans rfl
                          have hfz50_0 := blk_frozen BK144.out 0
                          have hfz50_1 := blk_frozen BK144.out 1
                          have hfz50_2 := blk_frozen BK144.out 2
                          have hfz50_3 := blk_frozen BK144.out 3
                          have hfz50_4 := blk_frozen BK144.out 4
                          go_wp2
                          refine bodyPost_ret (results_ctt rfl _ _ gb144 32 #[.int .i64 1, .int .i64 a1, .string (a0.extract (a1 : Int).toNat ((wrap64 (a1 + x9_21)) : Int).toNat), .int .i64 0, .int .i64 0] (0, 0) _ rfl (by (with_reducible repeat (first | refine blk_drewN ?_ _ | refine blk_drew ?_ | refine blk_alloc ?_ _)); refine blk_put (cs := #[.int .i64 1, .int .i64 a1, .string (a0.extract (a1 : Int).toNat ((wrap64 (a1 + x9_21)) : Int).toNat), .int .i64 0, .int .i64 0]) ?_ 4 _ rfl; (with_reducible repeat (first | refine blk_drewN ?_ _ | refine blk_drew ?_ | refine blk_alloc ?_ _)); refine blk_put (cs := #[.int .i64 1, .int .i64 a1, .string (a0.extract (a1 : Int).toNat ((wrap64 (a1 + x9_21)) : Int).toNat), .int .i64 0, .int .i64 0]) ?_ 3 _ rfl; (with_reducible repeat (first | refine blk_drewN ?_ _ | refine blk_drew ?_ | refine blk_alloc ?_ _)); refine blk_put (cs := #[.int .i64 1, .int .i64 a1, .string (⟨#[]⟩ : ByteArray), .int .i64 0, .int .i64 0]) ?_ 2 _ rfl; (with_reducible repeat (first | refine blk_drewN ?_ _ | refine blk_drew ?_ | refine blk_alloc ?_ _)); refine blk_put (cs := #[.int .i64 1, .int .i64 0, .string (⟨#[]⟩ : ByteArray), .int .i64 0, .int .i64 0]) ?_ 1 _ rfl; (with_reducible repeat (first | refine blk_drewN ?_ _ | refine blk_drew ?_ | refine blk_alloc ?_ _)); refine blk_put (cs := #[.int .i64 0, .int .i64 0, .string (⟨#[]⟩ : ByteArray), .int .i64 0, .int .i64 0]) ?_ 0 _ rfl; (with_reducible repeat (first | refine blk_drewN ?_ _ | refine blk_drew ?_ | refine blk_alloc ?_ _)); exact BK144.out) Tryd.underlying32 rfl (by kernel_rfl)) rfl ?_
                          exact ⟨by first | rfl | (simp [errW_none, errW_some] <;> rfl) | (simp [*, errW_none, errW_some] <;> rfl), by repeat (first | (with_reducible first | exact HB.out | apply below_alloc | apply pw_below_drewN | apply below_drew1 | refine below_set ?_ GE144.out) | exact HB.out)⟩
                        · rw [if_neg c49] at H
                          exact absurd H (by simp)
                      · rw [if_neg c48] at H
                        exact absurd H (by simp)
                    · rw [if_neg c47] at H
                      exact absurd H (by simp)
    · rw [if_neg c4] at H
      exact absurd H (by simp)
  · rw [if_neg c3] at H
    exact absurd H (by simp)

/-! ### cohousingref07_Lex: function 12 -/
def cohousingref07_Lex.l0 : Nat → ByteArray → List (S32) → Int → Option ((List (S32)) × Int × Int)
  | 0, _, _, _ => none
  | k + 1, x0, x5, x6 => if x6 < (x0.size : Int) then (if (x5.length : Int) = 2000 then (some (([] : List (S32)), 2, x6)) else ((cohousingref07_Next.f k x0 x6).bind fun bt154 => (if bt154.2.2.2.2.2.2 = 0 then (if x5.length < 2932031007402 then ((cohousingref07_Skip.f k x0 (wrap64 (x6 + bt154.2.2.2.2.2.1))).bind fun t165 => (cohousingref07_Lex.l0 k x0 (x5 ++ [(⟨bt154.1, bt154.2.1, bt154.2.2.1, (⟨bt154.2.2.2.1, bt154.2.2.2.2.1⟩ : S30)⟩ : S32)]) t165)) else (none)) else (some (([] : List (S32)), bt154.2.2.2.2.2.2, x6))))) else (some (x5, 0, 0))
def cohousingref07_Lex.f (k : Nat) (a0 : ByteArray) : Option ((List (S32)) × Int × Int) := if (a0.size : Int) > 8000 then (some (([] : List (S32)), 2, 0)) else ((cohousingref07_Skip.f k a0 0).bind fun t153 => (cohousingref07_Lex.l0 k a0 ([] : List (S32)) t153))
theorem cohousingref07_Lex.mono_l : ∀ k, (∀ y0 y1 y2, LeO (cohousingref07_Lex.l0 k y0 y1 y2) (cohousingref07_Lex.l0 (k + 1) y0 y1 y2))
  | 0 => fun _ _ _ r h => by simp [cohousingref07_Lex.l0] at h
  | k + 1 => by
    have ih0 := cohousingref07_Lex.mono_l k
    · intro y0 y1 y2
      unfold cohousingref07_Lex.l0
      repeat' first
      | (with_reducible exact ih0 _ _ _)
      | (with_reducible exact cohousingref07_Next.mono _ _ _)
      | (with_reducible exact cohousingref07_Skip.mono _ _ _)
      | (with_reducible exact LeO.refl _)
      | (with_reducible exact LeO.none _)
      | (with_reducible refine LeO.ite ?_ ?_)
      | (with_reducible refine LeO.bind ?_ (fun _ => ?_))
      | exact ih0 _ _ _
      | exact cohousingref07_Next.mono _ _ _
      | exact cohousingref07_Skip.mono _ _ _
      | exact LeO.none _
      | refine LeO.ite ?_ ?_
      | refine LeO.bind ?_ (fun _ => ?_)
theorem cohousingref07_Lex.mono : ∀ a0 k, LeO (cohousingref07_Lex.f k a0) (cohousingref07_Lex.f (k + 1) a0) := by
  intro a0 k
  have ih0 := cohousingref07_Lex.mono_l k
  unfold cohousingref07_Lex.f
  repeat' first
      | (with_reducible exact ih0 _ _ _)
      | (with_reducible exact cohousingref07_Next.mono _ _ _)
      | (with_reducible exact cohousingref07_Skip.mono _ _ _)
      | (with_reducible exact LeO.refl _)
      | (with_reducible exact LeO.none _)
      | (with_reducible refine LeO.ite ?_ ?_)
      | (with_reducible refine LeO.bind ?_ (fun _ => ?_))
      | exact ih0 _ _ _
      | exact cohousingref07_Next.mono _ _ _
      | exact cohousingref07_Skip.mono _ _ _
      | exact LeO.none _
      | refine LeO.ite ?_ ?_
      | refine LeO.bind ?_ (fun _ => ?_)
set_option maxHeartbeats 8000000 in
set_option maxRecDepth 100000 in
theorem cohousingref07_Lex.calls (k : Nat) (a0 : ByteArray) (r1 : List (S32)) (r2 : Int) (r3 : Int) (w : World) (h : cohousingref07_Lex.f k a0 = some (r1, r2, r3)) :
    Calls Tryd.prog 12 #[.string a0] w fun e w' => ∃ v0_ : Value, e = .returned (.tuple #[v0_, .int .i64 r2, .int .i64 r3]) ∧ Kd.R k32 32 w' w.heap.size (fun _ => True) v0_ r1 ∧ Below w.heap.size w w' := by
  have hu32 := Tryd.underlying32
  have HB := Aside0.mk (Below.refl w.heap.size w)
  have H : (if (a0.size : Int) > 8000 then (some (([] : List (S32)), 2, 0)) else ((cohousingref07_Skip.f k a0 0).bind fun t153 => (cohousingref07_Lex.l0 k a0 ([] : List (S32)) t153))) = some (r1, r2, r3) := h
  clear h
  by_cases c2 : (a0.size : Int) > 8000
  · rw [if_pos c2] at H
    have c2b0 : decide (8000 < (a0.size : Int)) = true := decide_eq_true c2
    have c2b1 : decide (8000 < a0.size) = true := decide_eq_true (by omega)
    clear c2
    simp only [Option.some.injEq, Prod.mk.injEq] at H
    obtain ⟨rfl, rfl, rfl⟩ := H
    go_enter Tryd.func12, Tryd.ntmps12
    go_wp2
    go_ret3
    exact ⟨_, by first | rfl | (simp [errW_none, errW_some] <;> rfl) | (simp [*, errW_none, errW_some] <;> rfl), by first | exact Kd.R_nil _ _ _ _ _ | exact Kd.N_nil _ _ _ _ _ | exact Kd.V_nil _ _ _ _ _ | exact Kd.Q_nil _ _ _ _ _ | exact Kd.S_nil _ _ _ _ _, by repeat (first | (with_reducible first | exact HB.out | apply below_alloc | apply pw_below_drewN | apply below_drew1) | exact HB.out)⟩
  · rw [if_neg c2] at H
    have c2b0 : decide (8000 < (a0.size : Int)) = false := decide_eq_false c2
    have c2b1 : decide (8000 < a0.size) = false := decide_eq_false (by omega)
    clear c2
    replace H := Option.bind_eq_some_iff.mp H
    obtain ⟨t153, A30, H⟩ := H
    replace H : (cohousingref07_Lex.l0 k a0 ([] : List (S32)) t153) = some (r1, r2, r3) := H
    have A3 := Aside0.mk A30
    clear A30
    have H' := Aside0.mk H
    clear H
    go_enter Tryd.func12, Tryd.ntmps12
    go_wp2_with (first | ((with_reducible refine gate_callee (f := 15) rfl ?_); refine goesL_ (some 14) rfl rfl Tryd.func15 (by kernel_rfl) rfl #[.string a0, .int .i64 0] rfl (by (try simp only [List.map_toArray, List.map_cons, List.map_nil]); first | done | rfl | (simp only [List.length_drop, List.length_take]; rfl)) ?_; (with_reducible refine (cohousingref07_Skip.calls k a0 0 t153 _ A3.out).mono ?_); rintro e w' ⟨rfl, ⟨nd, rfl⟩⟩; refine ⟨_, rfl, ?_⟩))
    go_loopg [5, 6] k (fun kq v5 v6 w' => ∃ (x5_1 : List (S32)) (x6_1 : Int), v6 = .int .i64 x6_1 ∧ Aside0 (cohousingref07_Lex.l0 kq a0 x5_1 x6_1 = some (r1, r2, r3)) ∧ Aside0 (kq ≤ k) ∧ Aside0 (Kd.R k32 32 w' w.heap.size (fun _ => True) v5 x5_1) ∧ Aside0 (Below w.heap.size w w'))
    case atStart => exact ⟨(([] : List (S32))), (t153), (by first | rfl | (simp; done) | (simp [*]; done)), H', ⟨Nat.le_refl _⟩, ⟨by first | exact Kd.R_nil _ _ _ _ _ | exact Kd.N_nil _ _ _ _ _ | exact Kd.V_nil _ _ _ _ _ | exact Kd.Q_nil _ _ _ _ _ | exact Kd.S_nil _ _ _ _ _⟩, ⟨by repeat (first | (with_reducible first | exact HB.out | apply below_alloc | apply pw_below_drewN | apply below_drew1) | exact HB.out)⟩⟩
    case round =>
      clear H'
      try clear c1
      try clear c2
      try clear c2b0
      try clear c2b1
      try clear p2
      obtain ⟨x5_1, x6_1, rfl, HA, HK1, HO_5, HB⟩ := hrel
      cases gk with
      | zero => exact absurd HA.out (by simp [cohousingref07_Lex.l0])
      | succ k1 =>
        have H := HA.out
        clear HA
        simp only [cohousingref07_Lex.l0] at H
        by_cases c4 : x6_1 < (a0.size : Int)
        · rw [if_pos c4] at H
          have c4b0 : decide (x6_1 < (a0.size : Int)) = true := decide_eq_true c4
          clear c4
          by_cases c5 : (x5_1.length : Int) = 2000
          · rw [if_pos c5] at H
            have c5b0 : ((x5_1.length : Int) == 2000) = true := beq_iff_eq.mpr c5
            have c5b1 : ((x5_1.length : Int) != 2000) = false := bne_eq_false_iff_eq.mpr c5
            clear c5
            simp only [Option.some.injEq, Prod.mk.injEq] at H
            obtain ⟨rfl, rfl, rfl⟩ := H
            obtain ⟨Ao6, co6, eo6⟩ := Kd.R_slice HO_5.out
            subst eo6
            go_wp2
            go_ret3
            exact ⟨_, by first | rfl | (simp [errW_none, errW_some] <;> rfl) | (simp [*, errW_none, errW_some] <;> rfl), by first | exact Kd.R_nil _ _ _ _ _ | exact Kd.N_nil _ _ _ _ _ | exact Kd.V_nil _ _ _ _ _ | exact Kd.Q_nil _ _ _ _ _ | exact Kd.S_nil _ _ _ _ _, by repeat (first | (with_reducible first | exact HB.out | apply below_alloc | apply pw_below_drewN | apply below_drew1) | exact HB.out)⟩
          · rw [if_neg c5] at H
            have c5b0 : ((x5_1.length : Int) == 2000) = false := beq_eq_false_iff_ne.mpr c5
            have c5b1 : ((x5_1.length : Int) != 2000) = true := bne_iff_ne.mpr c5
            replace H := Option.bind_eq_some_iff.mp H
            obtain ⟨⟨t154, t155, t156, t157, t158, t159, t160⟩, A70, H⟩ := H
            replace H : (if t160 = 0 then (if x5_1.length < 2932031007402 then ((cohousingref07_Skip.f k1 a0 (wrap64 (x6_1 + t159))).bind fun t165 => (cohousingref07_Lex.l0 k1 a0 (x5_1 ++ [(⟨t154, t155, t156, (⟨t157, t158⟩ : S30)⟩ : S32)]) t165)) else (none)) else (some (([] : List (S32)), t160, x6_1))) = some (r1, r2, r3) := H
            have A7 := Aside0.mk A70
            clear A70
            by_cases c8 : t160 = 0
            · rw [if_pos c8] at H
              have c8b0 : (t160 == 0) = true := beq_iff_eq.mpr c8
              have c8b1 : (t160 != 0) = false := bne_eq_false_iff_eq.mpr c8
              clear c8
              by_cases c9 : x5_1.length < 2932031007402
              · rw [if_pos c9] at H
                have LMc9 := Aside0.mk c9
                clear c9
                obtain ⟨y162, hy162⟩ : ∃ y_ : List (S32), y_ = (x5_1 ++ [(⟨t154, t155, t156, (⟨t157, t158⟩ : S30)⟩ : S32)]) := ⟨_, rfl⟩
                replace H : ((cohousingref07_Skip.f k1 a0 (wrap64 (x6_1 + t159))).bind fun t165 => (cohousingref07_Lex.l0 k1 a0 y162 t165)) = some (r1, r2, r3) := by first | (rw [hy162]; with_reducible exact H) | (have H2_ := (Option.bind_some _ _).symm.trans H; rw [hy162]; with_reducible exact H2_) | (have H2_ := (Option.bind_some _ _).symm.trans H; with_reducible exact H2_) | with_reducible exact H | (rw [hy162]; exact H) | exact H
                have Ny162 := Aside0.mk hy162
                clear hy162
                replace H := Option.bind_eq_some_iff.mp H
                obtain ⟨t165, A100, H⟩ := H
                replace H : (cohousingref07_Lex.l0 k1 a0 y162 t165) = some (r1, r2, r3) := H
                have A10 := Aside0.mk A100
                clear A100
                have H' := Aside0.mk H
                clear H
                obtain ⟨Ao11, co11, eo11⟩ := Kd.R_slice HO_5.out
                subst eo11
                go_wp2_with (first | ((with_reducible refine gate_callee (f := 23) rfl ?_); refine goesL_ (some 26) rfl rfl Tryd.func23 (by kernel_rfl) rfl #[.string a0, .int .i64 x6_1] rfl (by (try simp only [List.map_toArray, List.map_cons, List.map_nil]); first | done | rfl | (simp only [List.length_drop, List.length_take]; rfl)) ?_; (with_reducible refine (cohousingref07_Next.calls k1 a0 x6_1 t154 t155 t156 t157 t158 t159 t160 _ A7.out).mono ?_); rintro e w12 ⟨rfl, hb⟩; refine ⟨_, rfl, ?_⟩; have n0_ := Aside0.mk (Kd.R_below (by (with_reducible repeat (first | apply Kd.R_alloc | apply Kd.R_drewN | apply Kd.R_drew)); exact HO_5.out) hb); have n1_ := Aside0.mk (below_step (by repeat (first | (with_reducible first | exact HB.out | apply below_alloc | apply pw_below_drewN | apply below_drew1) | exact HB.out)) hb); clear HO_5; clear HB; have HO_5 := n0_; have HB := n1_; clear n0_ n1_; (try clear hb); (try clear hb2); (try clear hk); (try clear hi)) | ((with_reducible refine gate_dst (N := 7) rfl ?_); refine box_event ?hg (N := 7) ?hd (cs := #[.int .i64 0, .int .i64 0, .string (⟨#[]⟩ : ByteArray), .int .i64 0, .int .i64 0]) (t := 32) ?hr ?_; (case hd => rfl); (case hg => rfl); (case hr => first | (go_simp; done) | (go_simp; rfl)); intro gb161 hg w13 hbox hb; have n0_ := Aside0.mk (Kd.R_below (Kd.R_elderB (by (with_reducible repeat (first | apply Kd.R_alloc | apply Kd.R_drewN | apply Kd.R_drew)); exact HO_5.out) gb161 (Nat.le_of_eq hg.symm)) hb); have n1_ := Aside0.mk (below_step (by repeat (first | (with_reducible first | exact HB.out | apply below_alloc | apply pw_below_drewN | apply below_drew1) | exact HB.out)) hb); have n2_ := Aside0.mk (hbox); have n3_ := Aside0.mk ((by rw [hg]; exact (below_size (by repeat (first | (with_reducible first | exact HB.out | apply below_alloc | apply pw_below_drewN | apply below_drew1) | exact HB.out))) : w.heap.size ≤ gb161)); have n4_ := Aside0.mk ((by rw [hg]; exact (below_size (by repeat (first | (with_reducible first | exact HB.out | apply below_alloc | apply pw_below_drewN | apply below_drew1) | exact HB.out))) : w.heap.size ≤ gb161)); clear HO_5; clear HB; have HO_5 := n0_; have HB := n1_; have BK161 := n2_; have GW161 := n3_; have GE161 := n4_; clear n0_ n1_ n2_ n3_ n4_; clear hb hbox hg; have hcz14_0 : w13.cell? ⟨gb161, 0, none⟩ = some (.int .i64 0) := (blk_cell BK161.out 0).trans rfl; have hcz14_1 : w13.cell? ⟨gb161, 1, none⟩ = some (.int .i64 0) := (blk_cell BK161.out 1).trans rfl; have hcz14_2 : w13.cell? ⟨gb161, 2, none⟩ = some (.string (⟨#[]⟩ : ByteArray)) := (blk_cell BK161.out 2).trans rfl; have hcz14_3 : w13.cell? ⟨gb161, 3, none⟩ = some (.int .i64 0) := (blk_cell BK161.out 3).trans rfl; have hcz14_4 : w13.cell? ⟨gb161, 4, none⟩ = some (.int .i64 0) := (blk_cell BK161.out 4).trans rfl; have hfz14_0 := blk_frozen BK161.out 0; have hfz14_1 := blk_frozen BK161.out 1; have hfz14_2 := blk_frozen BK161.out 2; have hfz14_3 := blk_frozen BK161.out 3; have hfz14_4 := blk_frozen BK161.out 4) | ((with_reducible refine gate_builtin (b := .append) (xs := #[.tmp 34, .tmp 36]) rfl ?_); at_builtin; refine Kd.R_append k32 (w0 := w) w.heap.size rfl (.tmp 34) (.tmp 36) 23 32 (.agg #[(.int .i64 0), (.int .i64 0), (.string ⟨#[]⟩), (.int .i64 0), (.int .i64 0)]) 48 rfl Tryd.underlying23 info32 rfl (by decide) (by omega) (.slice Ao11 x5_1.length co11) x5_1 (⟨t154, t155, t156, (⟨t157, t158⟩ : S30)⟩ : S32) [.int .i64 t154, .int .i64 t155, .string t156, .int .i64 t157, .int .i64 t158] (fun k_ => k_ ≠ gb161) (fun _ => False) rfl (by first | (go_simp; done) | (go_simp; rfl)) ?aP (fun _ hk => hk.elim) ?aF ?aO ?aB ?aS ?aL ?_; (case aP => exact k32_mkM _ _ _ (⟨t154, t155, t156, (⟨t157, t158⟩ : S30)⟩ : S32)); (case aB => exact (by repeat (first | (with_reducible first | exact HB.out | apply below_alloc | apply pw_below_drewN | apply below_drew1 | refine below_set ?_ GE161.out) | exact HB.out))); (case aF => exact (fun k_ hk => Kd.freshB (g := gb161) (o := .cells #[.int .i64 t154, .int .i64 t155, .string t156, .int .i64 t157, .int .i64 t158] 32 (0, 0)) (by (with_reducible repeat (first | refine blk_drewN ?_ _ | refine blk_drew ?_ | refine blk_alloc ?_ _)); refine blk_put (cs := #[.int .i64 t154, .int .i64 t155, .string t156, .int .i64 t157, .int .i64 0]) ?_ 4 _ rfl; (with_reducible repeat (first | refine blk_drewN ?_ _ | refine blk_drew ?_ | refine blk_alloc ?_ _)); refine blk_put (cs := #[.int .i64 t154, .int .i64 t155, .string t156, .int .i64 0, .int .i64 0]) ?_ 3 _ rfl; (with_reducible repeat (first | refine blk_drewN ?_ _ | refine blk_drew ?_ | refine blk_alloc ?_ _)); refine blk_put (cs := #[.int .i64 t154, .int .i64 t155, .string (⟨#[]⟩ : ByteArray), .int .i64 0, .int .i64 0]) ?_ 2 _ rfl; (with_reducible repeat (first | refine blk_drewN ?_ _ | refine blk_drew ?_ | refine blk_alloc ?_ _)); refine blk_put (cs := #[.int .i64 t154, .int .i64 0, .string (⟨#[]⟩ : ByteArray), .int .i64 0, .int .i64 0]) ?_ 1 _ rfl; (with_reducible repeat (first | refine blk_drewN ?_ _ | refine blk_drew ?_ | refine blk_alloc ?_ _)); refine blk_put (cs := #[.int .i64 0, .int .i64 0, .string (⟨#[]⟩ : ByteArray), .int .i64 0, .int .i64 0]) ?_ 0 _ rfl; (with_reducible repeat (first | refine blk_drewN ?_ _ | refine blk_drew ?_ | refine blk_alloc ?_ _)); exact BK161.out) k_ hk)); (case aO => exact (by (with_reducible repeat (first | apply Kd.R_alloc | apply Kd.R_drewN | apply Kd.R_drew)); exact Kd.R_mono (Kd.R_far (p := ⟨gb161, 4, none⟩) (Kd.R_far (p := ⟨gb161, 3, none⟩) (Kd.R_far (p := ⟨gb161, 2, none⟩) (Kd.R_far (p := ⟨gb161, 1, none⟩) (Kd.R_far (p := ⟨gb161, 0, none⟩) (Kd.R_mono HO_5.out (fun k_ hk => (⟨hk, hk.2⟩ : _ ∧ k_ ≠ gb161))) (fun _ hk => hk.2) (.int .i64 t154)) (fun _ hk => hk.2) (.int .i64 t155)) (fun _ hk => hk.2) (.string t156)) (fun _ hk => hk.2) (.int .i64 t157)) (fun _ hk => hk.2) (.int .i64 t158)) (fun _ hk => hk.1.2))); (case aS => exact (below_size (by repeat (first | (with_reducible first | exact HB.out | apply below_alloc | apply pw_below_drewN | apply below_drew1 | refine below_set ?_ GE161.out) | exact HB.out)))); (case aL => have := LMc9.out; omega); intro v163 w15 ho hb hg hat; rw [← Ny162.out] at ho; have n0_ := Aside0.mk (blk_grown (g := gb161) (o := .cells #[.int .i64 t154, .int .i64 t155, .string t156, .int .i64 t157, .int .i64 t158] 32 (0, 0)) (by (with_reducible repeat (first | refine blk_drewN ?_ _ | refine blk_drew ?_ | refine blk_alloc ?_ _)); refine blk_put (cs := #[.int .i64 t154, .int .i64 t155, .string t156, .int .i64 t157, .int .i64 0]) ?_ 4 _ rfl; (with_reducible repeat (first | refine blk_drewN ?_ _ | refine blk_drew ?_ | refine blk_alloc ?_ _)); refine blk_put (cs := #[.int .i64 t154, .int .i64 t155, .string t156, .int .i64 0, .int .i64 0]) ?_ 3 _ rfl; (with_reducible repeat (first | refine blk_drewN ?_ _ | refine blk_drew ?_ | refine blk_alloc ?_ _)); refine blk_put (cs := #[.int .i64 t154, .int .i64 t155, .string (⟨#[]⟩ : ByteArray), .int .i64 0, .int .i64 0]) ?_ 2 _ rfl; (with_reducible repeat (first | refine blk_drewN ?_ _ | refine blk_drew ?_ | refine blk_alloc ?_ _)); refine blk_put (cs := #[.int .i64 t154, .int .i64 0, .string (⟨#[]⟩ : ByteArray), .int .i64 0, .int .i64 0]) ?_ 1 _ rfl; (with_reducible repeat (first | refine blk_drewN ?_ _ | refine blk_drew ?_ | refine blk_alloc ?_ _)); refine blk_put (cs := #[.int .i64 0, .int .i64 0, .string (⟨#[]⟩ : ByteArray), .int .i64 0, .int .i64 0]) ?_ 0 _ rfl; (with_reducible repeat (first | refine blk_drewN ?_ _ | refine blk_drew ?_ | refine blk_alloc ?_ _)); exact BK161.out) hg (Kd.R_away HO_5.out (fun _ hk => hk.2))); have n1_ := Aside0.mk (hb); have n2_ := Aside0.mk (ho); clear BK161; clear HB; clear HO_5; have BK161 := n0_; have HB := n1_; have HO164 := n2_; clear n0_ n1_ n2_; clear ho hb hg hat) | ((with_reducible refine gate_callee (f := 15) rfl ?_); refine goesL_ (some 42) rfl rfl Tryd.func15 (by kernel_rfl) rfl #[.string a0, .int .i64 (wrap64 (x6_1 + t159))] rfl (by (try simp only [List.map_toArray, List.map_cons, List.map_nil]); first | done | rfl | (simp only [List.length_drop, List.length_take]; rfl)) ?_; (with_reducible refine (cohousingref07_Skip.calls k1 a0 (wrap64 (x6_1 + t159)) t165 _ A10.out).mono ?_); rintro e w' ⟨rfl, ⟨nd, rfl⟩⟩; refine ⟨_, rfl, ?_⟩))
                go_roundg k1
                case measure => have := HK1.out; omega
                case rel => exact ⟨(y162), (t165), (by first | rfl | (simp; done) | (simp [*]; done)), H', ⟨by have := HK1.out; omega⟩, ⟨by (with_reducible repeat (first | apply Kd.R_alloc | apply Kd.R_drewN | apply Kd.R_drew)); exact Kd.R_mono HO164.out (fun _ hk => trivial)⟩, ⟨by repeat (first | (with_reducible first | exact HB.out | apply below_alloc | apply pw_below_drewN | apply below_drew1 | refine below_set ?_ GE161.out) | exact HB.out)⟩⟩
              · rw [if_neg c9] at H
                exact absurd H (by simp)
            · rw [if_neg c8] at H
              have c8b0 : (t160 == 0) = false := beq_eq_false_iff_ne.mpr c8
              have c8b1 : (t160 != 0) = true := bne_iff_ne.mpr c8
              simp only [Option.some.injEq, Prod.mk.injEq] at H
              obtain ⟨rfl, rfl, rfl⟩ := H
              obtain ⟨Ao16, co16, eo16⟩ := Kd.R_slice HO_5.out
              subst eo16
              go_wp2_with (first | ((with_reducible refine gate_callee (f := 23) rfl ?_); refine goesL_ (some 26) rfl rfl Tryd.func23 (by kernel_rfl) rfl #[.string a0, .int .i64 x6_1] rfl (by (try simp only [List.map_toArray, List.map_cons, List.map_nil]); first | done | rfl | (simp only [List.length_drop, List.length_take]; rfl)) ?_; (with_reducible refine (cohousingref07_Next.calls k1 a0 x6_1 t154 t155 t156 t157 t158 t159 t160 _ A7.out).mono ?_); rintro e w17 ⟨rfl, hb⟩; refine ⟨_, rfl, ?_⟩; have n0_ := Aside0.mk (Kd.R_below (by (with_reducible repeat (first | apply Kd.R_alloc | apply Kd.R_drewN | apply Kd.R_drew)); exact HO_5.out) hb); have n1_ := Aside0.mk (below_step (by repeat (first | (with_reducible first | exact HB.out | apply below_alloc | apply pw_below_drewN | apply below_drew1) | exact HB.out)) hb); clear HO_5; clear HB; have HO_5 := n0_; have HB := n1_; clear n0_ n1_; (try clear hb); (try clear hb2); (try clear hk); (try clear hi)) | ((with_reducible refine gate_dst (N := 7) rfl ?_); refine box_event ?hg (N := 7) ?hd (cs := #[.int .i64 0, .int .i64 0, .string (⟨#[]⟩ : ByteArray), .int .i64 0, .int .i64 0]) (t := 32) ?hr ?_; (case hd => rfl); (case hg => rfl); (case hr => first | (go_simp; done) | (go_simp; rfl)); intro gb161 hg w18 hbox hb; have n0_ := Aside0.mk (Kd.R_below (Kd.R_elderB (by (with_reducible repeat (first | apply Kd.R_alloc | apply Kd.R_drewN | apply Kd.R_drew)); exact HO_5.out) gb161 (Nat.le_of_eq hg.symm)) hb); have n1_ := Aside0.mk (below_step (by repeat (first | (with_reducible first | exact HB.out | apply below_alloc | apply pw_below_drewN | apply below_drew1) | exact HB.out)) hb); have n2_ := Aside0.mk (hbox); have n3_ := Aside0.mk ((by rw [hg]; exact (below_size (by repeat (first | (with_reducible first | exact HB.out | apply below_alloc | apply pw_below_drewN | apply below_drew1) | exact HB.out))) : w.heap.size ≤ gb161)); have n4_ := Aside0.mk ((by rw [hg]; exact (below_size (by repeat (first | (with_reducible first | exact HB.out | apply below_alloc | apply pw_below_drewN | apply below_drew1) | exact HB.out))) : w.heap.size ≤ gb161)); clear HO_5; clear HB; have HO_5 := n0_; have HB := n1_; have BK161 := n2_; have GW161 := n3_; have GE161 := n4_; clear n0_ n1_ n2_ n3_ n4_; clear hb hbox hg; have hcz19_0 : w18.cell? ⟨gb161, 0, none⟩ = some (.int .i64 0) := (blk_cell BK161.out 0).trans rfl; have hcz19_1 : w18.cell? ⟨gb161, 1, none⟩ = some (.int .i64 0) := (blk_cell BK161.out 1).trans rfl; have hcz19_2 : w18.cell? ⟨gb161, 2, none⟩ = some (.string (⟨#[]⟩ : ByteArray)) := (blk_cell BK161.out 2).trans rfl; have hcz19_3 : w18.cell? ⟨gb161, 3, none⟩ = some (.int .i64 0) := (blk_cell BK161.out 3).trans rfl; have hcz19_4 : w18.cell? ⟨gb161, 4, none⟩ = some (.int .i64 0) := (blk_cell BK161.out 4).trans rfl; have hfz19_0 := blk_frozen BK161.out 0; have hfz19_1 := blk_frozen BK161.out 1; have hfz19_2 := blk_frozen BK161.out 2; have hfz19_3 := blk_frozen BK161.out 3; have hfz19_4 := blk_frozen BK161.out 4))
              go_ret3
              exact ⟨_, by first | rfl | (simp [errW_none, errW_some] <;> rfl) | (simp [*, errW_none, errW_some] <;> rfl), by first | exact Kd.R_nil _ _ _ _ _ | exact Kd.N_nil _ _ _ _ _ | exact Kd.V_nil _ _ _ _ _ | exact Kd.Q_nil _ _ _ _ _ | exact Kd.S_nil _ _ _ _ _, by repeat (first | (with_reducible first | exact HB.out | apply below_alloc | apply pw_below_drewN | apply below_drew1 | refine below_set ?_ GE161.out) | exact HB.out)⟩
        · rw [if_neg c4] at H
          have c4b0 : decide (x6_1 < (a0.size : Int)) = false := decide_eq_false c4
          clear c4
          simp only [Option.some.injEq, Prod.mk.injEq] at H
          obtain ⟨rfl, rfl, rfl⟩ := H
          go_wp2
          go_ret3
          exact ⟨_, by first | rfl | (simp [errW_none, errW_some] <;> rfl) | (simp [*, errW_none, errW_some] <;> rfl), by (with_reducible repeat (first | apply Kd.R_alloc | apply Kd.R_drewN | apply Kd.R_drew)); exact HO_5.out, by repeat (first | (with_reducible first | exact HB.out | apply below_alloc | apply pw_below_drewN | apply below_drew1) | exact HB.out)⟩

/-! ### cohousingref07_Same: function 13 -/
-- by hand: cohousing/cohousingref07.Same
section
attribute [local go_sem ↓] Go.wp_at_zero Go.wp_at_succ
/-- Two tokens are the same, but for an offset that is greater by a number. -/
def sameT (k : Int) (a b : S32) : Bool := a.f0 == b.f0 && (wrap64 (a.f1 + k) == b.f1 && (a.f2.toList == b.f2.toList && (a.f3.f0 == b.f3.f0 && (a.f3.f1 == b.f3.f1))))
def sameL (k : Int) : List S32 → List S32 → Bool
  | [], [] => true
  | a :: l, b :: m => sameT k a b && sameL k l m
  | _, _ => false
theorem sameL_drop (k : Int) (l m : List S32) (i : Nat) (hl : i < l.length) (hm : i < m.length) : sameL k (l.drop i) (m.drop i) = (sameT k (rd_T32 l i) (rd_T32 m i) && sameL k (l.drop (i + 1)) (m.drop (i + 1))) := by
  rw [List.drop_eq_getElem_cons hl, List.drop_eq_getElem_cons hm, sameL]
  unfold rd_T32
  simp [hl, hm]
theorem sameL_len (k : Int) : ∀ l m : List S32, sameL k l m = true → l.length = m.length
  | [], [], _ => rfl
  | a :: l, b :: m, h => by
    rw [sameL, Bool.and_eq_true] at h
    rw [List.length_cons, List.length_cons, sameL_len k l m h.2]
  | [], b :: m, h => by simp [sameL] at h
  | a :: l, [], h => by simp [sameL] at h
theorem cell_al {W : World} {a : Addr} {u : Value} (h : W.cell? a = some u) (o : Obj) : (W.alloc o).cell? a = some u := (World.cell?_of_block (Below.heap_alloc W o a.block (World.block_lt_of_cell? W a h))).trans h
set_option maxRecDepth 100000 in
set_option maxHeartbeats 4000000 in
theorem same_ok (A0 : Option Addr) (c0 : Nat) (l0 : List (S32)) (A1 : Option Addr) (c1 : Nat) (l1 : List (S32)) (a2 : Int) (w : World) (hr0 : Kd.C k32 w A0 l0.length l0) (hr1 : Kd.C k32 w A1 l1.length l1) (hl0 : l0.length ≤ 1000000) :
    Calls Tryd.prog 13 #[.slice A0 l0.length c0, .slice A1 l1.length c1, .int .i64 a2] w fun e w' => e = .returned (.bool (sameL a2 l0 l1)) ∧ Below w.heap.size w w' := by
  have hu32 := Tryd.underlying32
  have HR0 := Aside0.mk hr0
  have HR1 := Aside0.mk hr1
  clear hr0 hr1
  by_cases hlen : l0.length = l1.length
  · have hz : ((l0.length : Int) == (l1.length : Int)) = true := by rw [beq_iff_eq]; omega
    have hz2 : (l0.length == l1.length) = true := by simpa using hlen
    have HL := Aside0.mk hlen
    clear hlen
    go_enter Tryd.func13, Tryd.ntmps13
    go_wp2_with fail
    clear hz hz2
    go_loopg [7] l0.length (fun k v7 wr => ∃ i : Nat, v7 = .int .i64 i ∧ k = l0.length - i ∧ i ≤ l0.length ∧ Aside0 (sameL a2 l0 l1 = sameL a2 (l0.drop i) (l1.drop i)) ∧ Aside0 (Below w.heap.size w wr))
    case atStart => exact ⟨0, rfl, by omega, by omega, ⟨rfl⟩, ⟨Below.refl _ _⟩⟩
    case round =>
      obtain ⟨i, rfl, rfl, hi, HE, HB⟩ := hrel
      by_cases hlt : i < l0.length
      · have hlen := HL.out
        have hzi : (i : Int) < (l0.length : Int) := by omega
        have hzj : (i : Int) < (l1.length : Int) := by omega
        have hz0 : (0 : Int) ≤ (i : Int) := by omega
        obtain ⟨ad0, e0, x0, x1, x2, x3, x4⟩ := at_T32 HR0.out (i : Int) hz0 hzi
        obtain ⟨ad1, e1, y0, y1, y2, y3, y4⟩ := at_T32 HR1.out (i : Int) hz0 hzj
        subst e0 e1
        have hE := HE.out.trans (sameL_drop a2 l0 l1 i hlt (by omega))
        have b0 := World.block_lt_of_cell? w _ x0
        have b1 := World.block_lt_of_cell? w _ y0
        replace x0 := (HB.out.cell (World.block_lt_of_cell? w _ x0)).trans x0
        replace x1 := (HB.out.cell (World.block_lt_of_cell? w _ x1)).trans x1
        replace x2 := (HB.out.cell (World.block_lt_of_cell? w _ x2)).trans x2
        replace x3 := (HB.out.cell (World.block_lt_of_cell? w _ x3)).trans x3
        replace x4 := (HB.out.cell (World.block_lt_of_cell? w _ x4)).trans x4
        replace y0 := (HB.out.cell (World.block_lt_of_cell? w _ y0)).trans y0
        replace y1 := (HB.out.cell (World.block_lt_of_cell? w _ y1)).trans y1
        replace y2 := (HB.out.cell (World.block_lt_of_cell? w _ y2)).trans y2
        replace y3 := (HB.out.cell (World.block_lt_of_cell? w _ y3)).trans y3
        replace y4 := (HB.out.cell (World.block_lt_of_cell? w _ y4)).trans y4
        have heq := fun (d : Nat) (W : World) => eqA32 d W (rd_T32 l0 i).f0 (rd_T32 l1 i).f0 (wrap64 ((rd_T32 l0 i).f1 + a2)) (rd_T32 l1 i).f1 (rd_T32 l0 i).f2 (rd_T32 l1 i).f2 (rd_T32 l0 i).f3.f0 (rd_T32 l1 i).f3.f0 (rd_T32 l0 i).f3.f1 (rd_T32 l1 i).f3.f1
        have hsd : ((rd_T32 l0 i).f0 == (rd_T32 l1 i).f0 && (wrap64 ((rd_T32 l0 i).f1 + a2) == (rd_T32 l1 i).f1 && ((rd_T32 l0 i).f2.toList == (rd_T32 l1 i).f2.toList && ((rd_T32 l0 i).f3.f0 == (rd_T32 l1 i).f3.f0 && ((rd_T32 l0 i).f3.f1 == (rd_T32 l1 i).f3.f1))))) = sameT a2 (rd_T32 l0 i) (rd_T32 l1 i) := rfl
        simp only [hsd] at heq
        have hw : IntKind.i64.wrap ((rd_T32 l0 i).f1 + a2) = wrap64 ((rd_T32 l0 i).f1 + a2) := by simp only [i64_w]
        generalize wrap64 ((rd_T32 l0 i).f1 + a2) = v at heq hw
        have HW := Aside0.mk hw
        rw [Int.toNat_natCast] at x0 x1 x2 x3 x4 y0 y1 y2 y3 y4
        clear hsd
        have nn := World.new_ne wr _ y0
        have z0 := fun o => cell_al y0 o
        have z1 := fun o => cell_al y1 o
        have z2 := fun o => cell_al y2 o
        have z3 := fun o => cell_al y3 o
        have z4 := fun o => cell_al y4 o
        cases hq : sameT a2 (rd_T32 l0 i) (rd_T32 l1 i) with
        | true =>
          rw [hq] at heq hE
          have HE2 := Aside0.mk (hE.trans (Bool.true_and _))
          clear hE hq HE
          generalize (rd_T32 l0 i) = t0 at *
          generalize (rd_T32 l1 i) = t1 at *
          go_wp2_with fail
          go_quiet (fail)
          go_wp2_with fail
          go_roundg (l0.length - (i + 1))
          case measure => omega
          case rel => exact ⟨i + 1, rfl, rfl, by omega, HE2, ⟨by repeat (first | exact HB.out | apply below_alloc | apply pw_below_drewN | refine Below.setCell ?_ (by have := HB.out.size; simp; omega) _)⟩⟩
        | false =>
          rw [hq] at heq hE
          have HE2 := Aside0.mk (hE.trans (Bool.false_and _))
          clear hE hq HE
          generalize (rd_T32 l0 i) = t0 at *
          generalize (rd_T32 l1 i) = t1 at *
          go_wp2_with fail
          go_quiet (fail)
          go_wp2_with fail
          (try simp only [Exit.inBlock, Exit.then])
          go_ret
          exact ⟨by rw [HE2.out]; rfl, by repeat (first | exact HB.out | apply below_alloc | apply pw_below_drewN | refine Below.setCell ?_ (by have := HB.out.size; simp; omega) _)⟩
      · have hlen := HL.out
        have hE := HE.out
        rw [List.drop_of_length_le (by omega), List.drop_of_length_le (by omega), sameL] at hE
        have HE2 := Aside0.mk hE
        clear hE HE
        go_wp2_with fail
        go_ret
        exact ⟨by rw [HE2.out]; rfl, HB.out⟩
  · have hz : ((l0.length : Int) == (l1.length : Int)) = false := by rw [beq_eq_false_iff_ne]; omega
    have hz2 : (l0.length == l1.length) = false := by simpa using hlen
    have hE : sameL a2 l0 l1 = false := by
      cases h : sameL a2 l0 l1 with
      | false => rfl
      | true => exact absurd (sameL_len a2 l0 l1 h) hlen
    rw [hE]
    clear hE hlen
    go_enter Tryd.func13, Tryd.ntmps13
    go_wp2_with fail
    go_ret
    exact ⟨rfl, Below.refl _ _⟩
end
def cohousingref07_Same.f (l0 : List (S32)) (l1 : List (S32)) (a2 : Int) : Option (Bool) := if l0.length ≤ 1000000 then some (sameL a2 l0 l1) else none
theorem cohousingref07_Same.calls (A0 : Option Addr) (c0 : Nat) (l0 : List (S32)) (A1 : Option Addr) (c1 : Nat) (l1 : List (S32)) (a2 : Int) (r : Bool) (w : World) (hr0 : Kd.C k32 w A0 l0.length l0) (hc0 : l0.length ≤ c0) (hr1 : Kd.C k32 w A1 l1.length l1) (hc1 : l1.length ≤ c1) (h : cohousingref07_Same.f l0 l1 a2 = some r) :
    Calls Tryd.prog 13 #[.slice A0 l0.length c0, .slice A1 l1.length c1, .int .i64 a2] w fun e w' => e = .returned (.bool r) ∧ Below w.heap.size w w' := by
  unfold cohousingref07_Same.f at h
  split at h
  · rename_i hl
    obtain rfl := Option.some.inj h
    exact same_ok A0 c0 l0 A1 c1 l1 a2 w hr0 hr1 hl
  · cases h

end Go.Proofs.YtmpjoaljincclaaDoor.X
