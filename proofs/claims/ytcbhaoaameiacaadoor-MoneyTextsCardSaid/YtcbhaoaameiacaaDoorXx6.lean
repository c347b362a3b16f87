-- Written by a program of mine (wip/tools/xprint.py) over the kit's print.py: printed functions and hand-proved ones side by side.
import Derived.Test.YtcbhaoaameiacaaDoorXx0
import Derived.Test.YtcbhaoaameiacaaDoorXx2
import Derived.Test.YtcbhaoaameiacaaDoorXx4
import Derived.Test.YtcbhaoaameiacaaDoorXx5
namespace Go.Proofs.YtcbhaoaameiacaaDoor.X
open Go.RowKit Go.Proofs.YtcbhaoaameiacaaDoorW.PrintWords Go.Proofs.YtcbhaoaameiacaaDoorW.PrintLast Go.Proofs.YtcbhaoaameiacaaDoorW.PrintMore
attribute [local go_sem] max2_int min2_int max_two min_two max_three min_three max_four min_four   -- for this text's walks alone
set_option linter.unusedVariables false
set_option linter.unusedSimpArgs false

/-! ### cohousinglaw02_MoneyRounds: function 4 -/
mutual
def cohousinglaw02_MoneyRounds.j0 : Nat → Int → Bool → Int → Int → Option (Bool)
  | 0, _, _, _, _ => none
  | k + 1, x0, x21, x197000, x197001 => if x21 = true then (some true) else ((money_Scale.f k x0 1 1).bind fun bt200 => ((money_Scale.f k x0 x197000 x197001).bind fun bt202 => ((money_Scale.f k (wrap64 (-x0)) x197000 x197001).bind fun bt204 => (if bt200.2 = 0 then (if bt200.1 = x0 then (if bt202.2 = bt204.2 then (cohousinglaw02_MoneyRounds.j1 k x0 bt202.1 bt202.2 (bt204.1 != (wrap64 (-bt202.1))) x197000 x197001) else (cohousinglaw02_MoneyRounds.j1 k x0 bt202.1 bt202.2 true x197000 x197001)) else (cohousinglaw02_MoneyRounds.j1 k x0 bt202.1 bt202.2 true x197000 x197001)) else (cohousinglaw02_MoneyRounds.j1 k x0 bt202.1 bt202.2 true x197000 x197001)))))
def cohousinglaw02_MoneyRounds.j1 : Nat → Int → Int → Int → Bool → Int → Int → Option (Bool)
  | 0, _, _, _, _, _, _ => none
  | k + 1, x0, x8, x9, x59, x197000, x197001 => if x59 = true then (none) else (if x9 = 0 then ((cohousingref02_Amount.f x8).bind fun t206 => (if t206 = true then (if (wrap64 (2 * (wrap64 ((wrap64 (x8 * x197001)) - (wrap64 (x0 * x197000)))))) ≤ x197001 then (if (wrap64 ((-2) * (wrap64 ((wrap64 (x8 * x197001)) - (wrap64 (x0 * x197000)))))) ≤ x197001 then (some true) else (none)) else (none)) else (none))) else (if x9 = 3 then (if x8 = 0 then (some true) else (none)) else (none)))
end
def cohousinglaw02_MoneyRounds.f (k : Nat) (a0 : Int) (a1_0 : Int) (a1_1 : Int) : Option (Bool) := (cohousinglaw02_head.f k).bind fun t197 => (if t197 = true then ((cohousingref02_Amount.f a0).bind fun t198 => (if t198 = true then ((cohousingref01_Valid.f k a1_0 a1_1).bind fun t199 => (cohousinglaw02_MoneyRounds.j0 k a0 (!t199) a1_0 a1_1)) else (cohousinglaw02_MoneyRounds.j0 k a0 true a1_0 a1_1))) else (none))
theorem cohousinglaw02_MoneyRounds.mono_l : ∀ k, (∀ y0 y1 y2 y3, LeO (cohousinglaw02_MoneyRounds.j0 k y0 y1 y2 y3) (cohousinglaw02_MoneyRounds.j0 (k + 1) y0 y1 y2 y3)) ∧ (∀ y0 y1 y2 y3 y4 y5, LeO (cohousinglaw02_MoneyRounds.j1 k y0 y1 y2 y3 y4 y5) (cohousinglaw02_MoneyRounds.j1 (k + 1) y0 y1 y2 y3 y4 y5))
  | 0 => ⟨fun _ _ _ _ r h => by simp [cohousinglaw02_MoneyRounds.j0] at h, fun _ _ _ _ _ _ r h => by simp [cohousinglaw02_MoneyRounds.j1] at h⟩
  | k + 1 => by
    obtain ⟨ih0, ih1⟩ := cohousinglaw02_MoneyRounds.mono_l k
    refine ⟨?_, ?_⟩
    · intro y0 y1 y2 y3
      unfold cohousinglaw02_MoneyRounds.j0
      repeat' first
      | (with_reducible exact ih0 _ _ _ _)
      | (with_reducible exact ih1 _ _ _ _ _ _)
      | (with_reducible exact cohousinglaw02_head.mono _)
      | (with_reducible exact cohousingref01_Valid.mono _ _ _)
      | (with_reducible exact money_Scale.mono _ _ _ _)
      | (with_reducible exact LeO.refl _)
      | (with_reducible exact LeO.none _)
      | (with_reducible refine LeO.ite ?_ ?_)
      | (with_reducible refine LeO.bind ?_ (fun _ => ?_))
      | exact ih0 _ _ _ _
      | exact ih1 _ _ _ _ _ _
      | exact cohousinglaw02_head.mono _
      | exact cohousingref01_Valid.mono _ _ _
      | exact money_Scale.mono _ _ _ _
      | exact LeO.none _
      | refine LeO.ite ?_ ?_
      | refine LeO.bind ?_ (fun _ => ?_)
    · intro y0 y1 y2 y3 y4 y5
      unfold cohousinglaw02_MoneyRounds.j1
      repeat' first
      | (with_reducible exact ih0 _ _ _ _)
      | (with_reducible exact ih1 _ _ _ _ _ _)
      | (with_reducible exact cohousinglaw02_head.mono _)
      | (with_reducible exact cohousingref01_Valid.mono _ _ _)
      | (with_reducible exact money_Scale.mono _ _ _ _)
      | (with_reducible exact LeO.refl _)
      | (with_reducible exact LeO.none _)
      | (with_reducible refine LeO.ite ?_ ?_)
      | (with_reducible refine LeO.bind ?_ (fun _ => ?_))
      | exact ih0 _ _ _ _
      | exact ih1 _ _ _ _ _ _
      | exact cohousinglaw02_head.mono _
      | exact cohousingref01_Valid.mono _ _ _
      | exact money_Scale.mono _ _ _ _
      | exact LeO.none _
      | refine LeO.ite ?_ ?_
      | refine LeO.bind ?_ (fun _ => ?_)
theorem cohousinglaw02_MoneyRounds.mono : ∀ a0 a1 a2 k, LeO (cohousinglaw02_MoneyRounds.f k a0 a1 a2) (cohousinglaw02_MoneyRounds.f (k + 1) a0 a1 a2) := by
  intro a0 a1 a2 k
  obtain ⟨ih0, ih1⟩ := cohousinglaw02_MoneyRounds.mono_l k
  unfold cohousinglaw02_MoneyRounds.f
  repeat' first
      | (with_reducible exact ih0 _ _ _ _)
      | (with_reducible exact ih1 _ _ _ _ _ _)
      | (with_reducible exact cohousinglaw02_head.mono _)
      | (with_reducible exact cohousingref01_Valid.mono _ _ _)
      | (with_reducible exact money_Scale.mono _ _ _ _)
      | (with_reducible exact LeO.refl _)
      | (with_reducible exact LeO.none _)
      | (with_reducible refine LeO.ite ?_ ?_)
      | (with_reducible refine LeO.bind ?_ (fun _ => ?_))
      | exact ih0 _ _ _ _
      | exact ih1 _ _ _ _ _ _
      | exact cohousinglaw02_head.mono _
      | exact cohousingref01_Valid.mono _ _ _
      | exact money_Scale.mono _ _ _ _
      | exact LeO.none _
      | refine LeO.ite ?_ ?_
      | refine LeO.bind ?_ (fun _ => ?_)
set_option maxHeartbeats 8000000 in
set_option maxRecDepth 100000 in
theorem cohousinglaw02_MoneyRounds.calls (k : Nat) (a0 : Int) (a1_0 : Int) (a1_1 : Int) (r : Bool) (w : World) (hG : GL w) (h : cohousinglaw02_MoneyRounds.f k a0 a1_0 a1_1 = some r) :
    Calls Tryd.prog 4 #[.int .i64 a0, .agg #[.int .i64 a1_0, .int .i64 a1_1]] w fun e w' => e = .returned (.bool r) ∧ Below w.heap.size w w' := by
  have hu29 := Tryd.underlying29
  have HG := Aside0.mk hG
  clear hG
  have HB := Aside0.mk (Below.refl w.heap.size w)
  have H : ((cohousinglaw02_head.f k).bind fun t197 => (if t197 = true then ((cohousingref02_Amount.f a0).bind fun t198 => (if t198 = true then ((cohousingref01_Valid.f k a1_0 a1_1).bind fun t199 => (cohousinglaw02_MoneyRounds.j0 k a0 (!t199) a1_0 a1_1)) else (cohousinglaw02_MoneyRounds.j0 k a0 true a1_0 a1_1))) else (none))) = some r := h
  clear h
  replace H := Option.bind_eq_some_iff.mp H
  obtain ⟨t197, A30, H⟩ := H
  replace H : (if t197 = true then ((cohousingref02_Amount.f a0).bind fun t198 => (if t198 = true then ((cohousingref01_Valid.f k a1_0 a1_1).bind fun t199 => (cohousinglaw02_MoneyRounds.j0 k a0 (!t199) a1_0 a1_1)) else (cohousinglaw02_MoneyRounds.j0 k a0 true a1_0 a1_1))) else (none)) = some r := H
  have A3 := Aside0.mk A30
  clear A30
  by_cases c4 : t197 = true
  · subst c4
    have H1 : ((cohousingref02_Amount.f a0).bind fun t198 => (if t198 = true then ((cohousingref01_Valid.f k a1_0 a1_1).bind fun t199 => (cohousinglaw02_MoneyRounds.j0 k a0 (!t199) a1_0 a1_1)) else (cohousinglaw02_MoneyRounds.j0 k a0 true a1_0 a1_1))) = some r := by rw [if_pos rfl] at H; exact H
    clear H
    have H := H1
    clear H1
    have HC5 := Aside0.mk H
    clear H
    go_enter Tryd.func4, Tryd.ntmps4
    go_upto_region 2 with (first | ((with_reducible refine gate_dst (N := 3) rfl ?_); refine box_event ?hg (N := 3) ?hd (cs := #[.int .i64 a1_0, .int .i64 a1_1]) (t := 29) ?hr ?_; (case hd => rfl); (case hg => rfl); (case hr => first | (go_simp; done) | (go_simp; rfl)); intro gb196 hg w6 hbox hb; have n0_ := Aside0.mk (below_step (by repeat (first | (with_reducible first | exact HB.out | apply below_alloc | apply pw_below_drewN | apply below_drew1) | exact HB.out)) hb); have n1_ := Aside0.mk (hbox); have n2_ := Aside0.mk ((by rw [hg]; exact (below_size (by repeat (first | (with_reducible first | exact HB.out | apply below_alloc | apply pw_below_drewN | apply below_drew1) | exact HB.out))) : w.heap.size ≤ gb196)); have n3_ := Aside0.mk ((by rw [hg]; exact (below_size (by repeat (first | (with_reducible first | exact HB.out | apply below_alloc | apply pw_below_drewN | apply below_drew1) | exact HB.out))) : w.heap.size ≤ gb196)); clear HB; have HB := n0_; have BK196 := n1_; have GW196 := n2_; have GE196 := n3_; clear n0_ n1_ n2_ n3_; clear hb hbox hg) | ((with_reducible refine gate_callee (f := 10) rfl ?_); refine goesL_ (some 13) rfl rfl Tryd.func10 (by kernel_rfl) rfl #[] rfl (by (try simp only [List.map_toArray, List.map_cons, List.map_nil]); first | done | rfl | (simp only [List.length_drop, List.length_take]; rfl)) ?_; (with_reducible refine (cohousinglaw02_head.calls k  true _ ?side1 A3.out).mono ?_); (case side1 => exact GL.below HG.out (by repeat (first | (with_reducible first | exact HB.out | apply below_alloc | apply pw_below_drewN | apply below_drew1 | refine below_set ?_ GE196.out) | exact HB.out))); rintro e w7 ⟨rfl, hb⟩; refine ⟨_, rfl, ?_⟩; have n0_ := Aside0.mk (blk_below (g := gb196) (o := .cells #[.int .i64 a1_0, .int .i64 a1_1] 29 (0, 0)) (by (with_reducible repeat (first | refine blk_drewN ?_ _ | refine blk_drew ?_ | refine blk_alloc ?_ _)); exact BK196.out) hb); have n1_ := Aside0.mk (below_step (by repeat (first | (with_reducible first | exact HB.out | apply below_alloc | apply pw_below_drewN | apply below_drew1 | refine below_set ?_ GE196.out) | exact HB.out)) hb); clear BK196; clear HB; have BK196 := n0_; have HB := n1_; clear n0_ n1_; (try clear hb); (try clear hb2); (try clear hk); (try clear hi)))
    (try simp only [Act.put, List.setIfInBounds_toArray, List.set_cons_zero, List.set_cons_succ])
    go_cut [21] (fun v21 wc => ∃ (kq : Nat) (x21_4 : Bool), v21 = .bool x21_4 ∧ Aside0 (cohousinglaw02_MoneyRounds.j0 kq a0 x21_4 a1_0 a1_1 = some r) ∧ Aside0 (kq ≤ k) ∧ Aside0 (wc.heap[gb196]? = some (.cells #[.int .i64 a1_0, .int .i64 a1_1] 29 (0, 0))) ∧ Aside0 (Below w.heap.size w wc))
    case first =>
      have H := HC5.out
      clear HC5
      replace H := Option.bind_eq_some_iff.mp H
      obtain ⟨t198, A80, H⟩ := H
      replace H : (if t198 = true then ((cohousingref01_Valid.f k a1_0 a1_1).bind fun t199 => (cohousinglaw02_MoneyRounds.j0 k a0 (!t199) a1_0 a1_1)) else (cohousinglaw02_MoneyRounds.j0 k a0 true a1_0 a1_1)) = some r := H
      have A8 := Aside0.mk A80
      clear A80
      by_cases c9 : t198 = true
      · subst c9
        have H1 : ((cohousingref01_Valid.f k a1_0 a1_1).bind fun t199 => (cohousinglaw02_MoneyRounds.j0 k a0 (!t199) a1_0 a1_1)) = some r := by rw [if_pos rfl] at H; exact H
        clear H
        have H := H1
        clear H1
        replace H := Option.bind_eq_some_iff.mp H
        obtain ⟨t199, A100, H⟩ := H
        replace H : (cohousinglaw02_MoneyRounds.j0 k a0 (!t199) a1_0 a1_1) = some r := H
        have A10 := Aside0.mk A100
        clear A100
        have H' := Aside0.mk H
        clear H
        go_wp2_with (first | ((with_reducible refine gate_callee (f := 12) rfl ?_); refine goesL_ (some 15) rfl rfl Tryd.func12 (by kernel_rfl) rfl #[.int .i64 a0] rfl (by (try simp only [List.map_toArray, List.map_cons, List.map_nil]); first | done | rfl | (simp only [List.length_drop, List.length_take]; rfl)) ?_; (with_reducible refine (cohousingref02_Amount.calls a0 true _ A8.out).mono ?_); rintro e w' ⟨rfl, ⟨nd, rfl⟩⟩; refine ⟨_, rfl, ?_⟩; have hcz11_0 : w7.cell? ⟨gb196, 0, none⟩ = some (.int .i64 a1_0) := (blk_cell BK196.out 0).trans rfl; have hcz11_1 : w7.cell? ⟨gb196, 1, none⟩ = some (.int .i64 a1_1) := (blk_cell BK196.out 1).trans rfl; have hfz11_0 := blk_frozen BK196.out 0; have hfz11_1 := blk_frozen BK196.out 1) | (go_at_call 13; (with_reducible refine (cohousingref01_Valid.calls k a1_0 a1_1 t199 _ A10.out).mono ?_); rintro e w12 ⟨rfl, hb⟩; have n0_ := Aside0.mk (blk_below (g := gb196) (o := .cells #[.int .i64 a1_0, .int .i64 a1_1] 29 (0, 0)) (by (with_reducible repeat (first | refine blk_drewN ?_ _ | refine blk_drew ?_ | refine blk_alloc ?_ _)); exact BK196.out) hb); have n1_ := Aside0.mk (below_step (by repeat (first | (with_reducible first | exact HB.out | apply below_alloc | apply pw_below_drewN | apply below_drew1 | refine below_set ?_ GE196.out) | exact HB.out)) hb); clear BK196; clear HB; have BK196 := n0_; have HB := n1_; clear n0_ n1_; (try clear hb); (try clear hb2); (try clear hk); (try clear hi)))
        go_meet
        case rel => exact ⟨_, (!t199), (by first | rfl | (simp; done) | (simp [*]; done)), H', ⟨by first | omega | exact Nat.le_refl _⟩, ⟨by (with_reducible repeat (first | refine blk_drewN ?_ _ | refine blk_drew ?_ | refine blk_alloc ?_ _)); exact BK196.out⟩, ⟨by repeat (first | (with_reducible first | exact HB.out | apply below_alloc | apply pw_below_drewN | apply below_drew1 | refine below_set ?_ GE196.out) | exact HB.out)⟩⟩
      · replace c9 := Bool.eq_false_iff.mpr c9
        subst c9
        have H1 : (cohousinglaw02_MoneyRounds.j0 k a0 true a1_0 a1_1) = some r := by rw [if_neg (show ¬ (false = true) by decide)] at H; exact H
        clear H
        have H := H1
        clear H1
        have H' := Aside0.mk H
        clear H
        go_wp2_with (first | ((with_reducible refine gate_callee (f := 12) rfl ?_); refine goesL_ (some 15) rfl rfl Tryd.func12 (by kernel_rfl) rfl #[.int .i64 a0] rfl (by (try simp only [List.map_toArray, List.map_cons, List.map_nil]); first | done | rfl | (simp only [List.length_drop, List.length_take]; rfl)) ?_; (with_reducible refine (cohousingref02_Amount.calls a0 false _ A8.out).mono ?_); rintro e w' ⟨rfl, ⟨nd, rfl⟩⟩; refine ⟨_, rfl, ?_⟩))
        go_meet
        case rel => exact ⟨_, (true), (by first | rfl | (simp; done) | (simp [*]; done)), H', ⟨by first | omega | exact Nat.le_refl _⟩, ⟨by (with_reducible repeat (first | refine blk_drewN ?_ _ | refine blk_drew ?_ | refine blk_alloc ?_ _)); exact BK196.out⟩, ⟨by repeat (first | (with_reducible first | exact HB.out | apply below_alloc | apply pw_below_drewN | apply below_drew1 | refine below_set ?_ GE196.out) | exact HB.out)⟩⟩
    case rest =>
      clear HC5
      try clear c1
      try clear p2
      try clear c4
      try clear c9
      try clear c10
      try clear c12
      try clear hcz11_0
      try clear hcz11_1
      try clear hfz11_0
      try clear hfz11_1
      obtain ⟨kq, x21_4, rfl, HA, HJ4, BK196, HB⟩ := hcut
      cases kq with
      | zero => exact absurd HA.out (by simp [cohousinglaw02_MoneyRounds.j0])
      | succ kj4 =>
        have H := HA.out
        clear HA
        simp only [cohousinglaw02_MoneyRounds.j0] at H
        by_cases c13 : x21_4 = true
        · subst c13
          have H1 : (some true) = some r := by rw [if_pos rfl] at H; exact H
          clear H
          have H := H1
          clear H1
          obtain rfl := Option.some.inj H
          go_wp2
          go_ret
          exact ⟨by first | rfl | (simp [errW_none, errW_some] <;> rfl) | (simp [*, errW_none, errW_some] <;> rfl), by repeat (first | (with_reducible first | exact HB.out | apply below_alloc | apply pw_below_drewN | apply below_drew1 | refine below_set ?_ GE196.out) | exact HB.out)⟩
        · replace c13 := Bool.eq_false_iff.mpr c13
          subst c13
          have H1 : ((money_Scale.f kj4 a0 1 1).bind fun bt200 => ((money_Scale.f kj4 a0 a1_0 a1_1).bind fun bt202 => ((money_Scale.f kj4 (wrap64 (-a0)) a1_0 a1_1).bind fun bt204 => (if bt200.2 = 0 then (if bt200.1 = a0 then (if bt202.2 = bt204.2 then (cohousinglaw02_MoneyRounds.j1 kj4 a0 bt202.1 bt202.2 (bt204.1 != (wrap64 (-bt202.1))) a1_0 a1_1) else (cohousinglaw02_MoneyRounds.j1 kj4 a0 bt202.1 bt202.2 true a1_0 a1_1)) else (cohousinglaw02_MoneyRounds.j1 kj4 a0 bt202.1 bt202.2 true a1_0 a1_1)) else (cohousinglaw02_MoneyRounds.j1 kj4 a0 bt202.1 bt202.2 true a1_0 a1_1))))) = some r := by rw [if_neg (show ¬ (false = true) by decide)] at H; exact H
          clear H
          have H := H1
          clear H1
          replace H := Option.bind_eq_some_iff.mp H
          obtain ⟨⟨t200, t201⟩, A140, H⟩ := H
          replace H : ((money_Scale.f kj4 a0 a1_0 a1_1).bind fun bt202 => ((money_Scale.f kj4 (wrap64 (-a0)) a1_0 a1_1).bind fun bt204 => (if t201 = 0 then (if t200 = a0 then (if bt202.2 = bt204.2 then (cohousinglaw02_MoneyRounds.j1 kj4 a0 bt202.1 bt202.2 (bt204.1 != (wrap64 (-bt202.1))) a1_0 a1_1) else (cohousinglaw02_MoneyRounds.j1 kj4 a0 bt202.1 bt202.2 true a1_0 a1_1)) else (cohousinglaw02_MoneyRounds.j1 kj4 a0 bt202.1 bt202.2 true a1_0 a1_1)) else (cohousinglaw02_MoneyRounds.j1 kj4 a0 bt202.1 bt202.2 true a1_0 a1_1)))) = some r := H
          have A14 := Aside0.mk A140
          clear A140
          replace H := Option.bind_eq_some_iff.mp H
          obtain ⟨⟨t202, t203⟩, A150, H⟩ := H
          replace H : ((money_Scale.f kj4 (wrap64 (-a0)) a1_0 a1_1).bind fun bt204 => (if t201 = 0 then (if t200 = a0 then (if t203 = bt204.2 then (cohousinglaw02_MoneyRounds.j1 kj4 a0 t202 t203 (bt204.1 != (wrap64 (-t202))) a1_0 a1_1) else (cohousinglaw02_MoneyRounds.j1 kj4 a0 t202 t203 true a1_0 a1_1)) else (cohousinglaw02_MoneyRounds.j1 kj4 a0 t202 t203 true a1_0 a1_1)) else (cohousinglaw02_MoneyRounds.j1 kj4 a0 t202 t203 true a1_0 a1_1))) = some r := H
          have A15 := Aside0.mk A150
          clear A150
          replace H := Option.bind_eq_some_iff.mp H
          obtain ⟨⟨t204, t205⟩, A160, H⟩ := H
          replace H : (if t201 = 0 then (if t200 = a0 then (if t203 = t205 then (cohousinglaw02_MoneyRounds.j1 kj4 a0 t202 t203 (t204 != (wrap64 (-t202))) a1_0 a1_1) else (cohousinglaw02_MoneyRounds.j1 kj4 a0 t202 t203 true a1_0 a1_1)) else (cohousinglaw02_MoneyRounds.j1 kj4 a0 t202 t203 true a1_0 a1_1)) else (cohousinglaw02_MoneyRounds.j1 kj4 a0 t202 t203 true a1_0 a1_1)) = some r := H
          have A16 := Aside0.mk A160
          clear A160
          have HC17 := Aside0.mk H
          clear H
          go_upto_region 7 with (first | ((with_reducible refine gate_callee (f := 14) rfl ?_); refine goesL_ (some 26) rfl rfl Tryd.func14 (by kernel_rfl) rfl #[.int .i64 a0, .agg #[.int .i64 1, .int .i64 1]] rfl (by (try simp only [List.map_toArray, List.map_cons, List.map_nil]); first | done | rfl | (simp only [List.length_drop, List.length_take]; rfl)) ?_; (with_reducible refine (money_Scale.calls kj4 a0 1 1 t200 t201 _ A14.out).mono ?_); rintro e w18 ⟨rfl, hb⟩; refine ⟨_, rfl, ?_⟩; have n0_ := Aside0.mk (blk_below (g := gb196) (o := .cells #[.int .i64 a1_0, .int .i64 a1_1] 29 (0, 0)) (by (with_reducible repeat (first | refine blk_drewN ?_ _ | refine blk_drew ?_ | refine blk_alloc ?_ _)); exact BK196.out) hb); have n1_ := Aside0.mk (below_step (by repeat (first | (with_reducible first | exact HB.out | apply below_alloc | apply pw_below_drewN | apply below_drew1 | refine below_set ?_ GE196.out) | exact HB.out)) hb); clear BK196; clear HB; have BK196 := n0_; have HB := n1_; clear n0_ n1_; (try clear hb); (try clear hb2); (try clear hk); (try clear hi); have hcz19_0 : w18.cell? ⟨gb196, 0, none⟩ = some (.int .i64 a1_0) := (blk_cell BK196.out 0).trans rfl; have hcz19_1 : w18.cell? ⟨gb196, 1, none⟩ = some (.int .i64 a1_1) := (blk_cell BK196.out 1).trans rfl; have hfz19_0 := blk_frozen BK196.out 0; have hfz19_1 := blk_frozen BK196.out 1) | ((with_reducible refine gate_callee (f := 14) rfl ?_); refine goesL_ (some 32) rfl rfl Tryd.func14 (by kernel_rfl) rfl #[.int .i64 a0, .agg #[.int .i64 a1_0, .int .i64 a1_1]] rfl (by (try simp only [List.map_toArray, List.map_cons, List.map_nil]); first | done | rfl | (simp only [List.length_drop, List.length_take]; rfl)) ?_; (with_reducible refine (money_Scale.calls kj4 a0 a1_0 a1_1 t202 t203 _ A15.out).mono ?_); rintro e w20 ⟨rfl, hb⟩; refine ⟨_, rfl, ?_⟩; have n0_ := Aside0.mk (blk_below (g := gb196) (o := .cells #[.int .i64 a1_0, .int .i64 a1_1] 29 (0, 0)) (by (with_reducible repeat (first | refine blk_drewN ?_ _ | refine blk_drew ?_ | refine blk_alloc ?_ _)); exact BK196.out) hb); have n1_ := Aside0.mk (below_step (by repeat (first | (with_reducible first | exact HB.out | apply below_alloc | apply pw_below_drewN | apply below_drew1 | refine below_set ?_ GE196.out) | exact HB.out)) hb); clear BK196; clear HB; have BK196 := n0_; have HB := n1_; clear n0_ n1_; (try clear hb); (try clear hb2); (try clear hk); (try clear hi); have hcz21_0 : w20.cell? ⟨gb196, 0, none⟩ = some (.int .i64 a1_0) := (blk_cell BK196.out 0).trans rfl; have hcz21_1 : w20.cell? ⟨gb196, 1, none⟩ = some (.int .i64 a1_1) := (blk_cell BK196.out 1).trans rfl; have hfz21_0 := blk_frozen BK196.out 0; have hfz21_1 := blk_frozen BK196.out 1) | ((with_reducible refine gate_callee (f := 14) rfl ?_); refine goesL_ (some 39) rfl rfl Tryd.func14 (by kernel_rfl) rfl #[.int .i64 (wrap64 (-a0)), .agg #[.int .i64 a1_0, .int .i64 a1_1]] rfl (by (try simp only [List.map_toArray, List.map_cons, List.map_nil]); first | done | rfl | (simp only [List.length_drop, List.length_take]; rfl)) ?_; (with_reducible refine (money_Scale.calls kj4 (wrap64 (-a0)) a1_0 a1_1 t204 t205 _ A16.out).mono ?_); rintro e w22 ⟨rfl, hb⟩; refine ⟨_, rfl, ?_⟩; have n0_ := Aside0.mk (blk_below (g := gb196) (o := .cells #[.int .i64 a1_0, .int .i64 a1_1] 29 (0, 0)) (by (with_reducible repeat (first | refine blk_drewN ?_ _ | refine blk_drew ?_ | refine blk_alloc ?_ _)); exact BK196.out) hb); have n1_ := Aside0.mk (below_step (by repeat (first | (with_reducible first | exact HB.out | apply below_alloc | apply pw_below_drewN | apply below_drew1 | refine below_set ?_ GE196.out) | exact HB.out)) hb); clear BK196; clear HB; have BK196 := n0_; have HB := n1_; clear n0_ n1_; (try clear hb); (try clear hb2); (try clear hk); (try clear hi)))
          (try simp only [Act.put, List.setIfInBounds_toArray, List.set_cons_zero, List.set_cons_succ])
          go_cut [59] (fun v59 wc => ∃ (kq : Nat) (x59_16 : Bool), v59 = .bool x59_16 ∧ Aside0 (cohousinglaw02_MoneyRounds.j1 kq a0 t202 t203 x59_16 a1_0 a1_1 = some r) ∧ Aside0 (kq ≤ kj4) ∧ Aside0 (wc.heap[gb196]? = some (.cells #[.int .i64 a1_0, .int .i64 a1_1] 29 (0, 0))) ∧ Aside0 (Below w.heap.size w wc))
          case first =>
            have H := HC17.out
            clear HC17
            by_cases c23 : t201 = 0
            · rw [if_pos c23] at H
              have c23b0 : (t201 == 0) = true := beq_iff_eq.mpr c23
              have c23b1 : (t201 != 0) = false := bne_eq_false_iff_eq.mpr c23
              clear c23
              (first | rw [c23b0] | (simp only [i64_w, i32_w]; rw [c23b0]) | skip)
              by_cases c24 : t200 = a0
              · rw [if_pos c24] at H
                have c24b0 : (t200 == a0) = true := beq_iff_eq.mpr c24
                have c24b1 : (t200 != a0) = false := bne_eq_false_iff_eq.mpr c24
                clear c24
                by_cases c25 : t203 = t205
                · rw [if_pos c25] at H
                  have c25b0 : (t203 == t205) = true := beq_iff_eq.mpr c25
                  have c25b1 : (t203 != t205) = false := bne_eq_false_iff_eq.mpr c25
                  clear c25
                  have H' := Aside0.mk H
                  clear H
                  go_wp2
                  go_meet
                  case rel => exact ⟨_, ((t204 != (wrap64 (-t202)))), (by first | rfl | (simp; done) | (simp [*]; done)), H', ⟨by have := HJ4.out; first | omega | exact Nat.le_refl _⟩, ⟨by (with_reducible repeat (first | refine blk_drewN ?_ _ | refine blk_drew ?_ | refine blk_alloc ?_ _)); exact BK196.out⟩, ⟨by repeat (first | (with_reducible first | exact HB.out | apply below_alloc | apply pw_below_drewN | apply below_drew1 | refine below_set ?_ GE196.out) | exact HB.out)⟩⟩
                · rw [if_neg c25] at H
                  have c25b0 : (t203 == t205) = false := beq_eq_false_iff_ne.mpr c25
                  have c25b1 : (t203 != t205) = true := bne_iff_ne.mpr c25
                  have H' := Aside0.mk H
                  clear H
                  go_wp2
                  go_meet
                  case rel => exact ⟨_, (true), (by first | rfl | (simp; done) | (simp [*]; done)), H', ⟨by have := HJ4.out; first | omega | exact Nat.le_refl _⟩, ⟨by (with_reducible repeat (first | refine blk_drewN ?_ _ | refine blk_drew ?_ | refine blk_alloc ?_ _)); exact BK196.out⟩, ⟨by repeat (first | (with_reducible first | exact HB.out | apply below_alloc | apply pw_below_drewN | apply below_drew1 | refine below_set ?_ GE196.out) | exact HB.out)⟩⟩
              · rw [if_neg c24] at H
                have c24b0 : (t200 == a0) = false := beq_eq_false_iff_ne.mpr c24
                have c24b1 : (t200 != a0) = true := bne_iff_ne.mpr c24
                have H' := Aside0.mk H
                clear H
                go_wp2
                go_meet
                case rel => exact ⟨_, (true), (by first | rfl | (simp; done) | (simp [*]; done)), H', ⟨by have := HJ4.out; first | omega | exact Nat.le_refl _⟩, ⟨by (with_reducible repeat (first | refine blk_drewN ?_ _ | refine blk_drew ?_ | refine blk_alloc ?_ _)); exact BK196.out⟩, ⟨by repeat (first | (with_reducible first | exact HB.out | apply below_alloc | apply pw_below_drewN | apply below_drew1 | refine below_set ?_ GE196.out) | exact HB.out)⟩⟩
            · rw [if_neg c23] at H
              have c23b0 : (t201 == 0) = false := beq_eq_false_iff_ne.mpr c23
              have c23b1 : (t201 != 0) = true := bne_iff_ne.mpr c23
              (first | rw [c23b0] | (simp only [i64_w, i32_w]; rw [c23b0]) | skip)
              have H' := Aside0.mk H
              clear H
              go_wp2
              go_meet
              case rel => exact ⟨_, (true), (by first | rfl | (simp; done) | (simp [*]; done)), H', ⟨by have := HJ4.out; first | omega | exact Nat.le_refl _⟩, ⟨by (with_reducible repeat (first | refine blk_drewN ?_ _ | refine blk_drew ?_ | refine blk_alloc ?_ _)); exact BK196.out⟩, ⟨by repeat (first | (with_reducible first | exact HB.out | apply below_alloc | apply pw_below_drewN | apply below_drew1 | refine below_set ?_ GE196.out) | exact HB.out)⟩⟩
          case rest =>
            clear HC17
            try clear c1
            try clear c2
            try clear p2
            try clear c4
            try clear p6
            try clear c9
            try clear c10
            try clear c12
            try clear c13
            try clear c14
            try clear c23
            try clear c23b0
            try clear c23b1
            try clear c24
            try clear c24b0
            try clear c24b1
            try clear c25
            try clear c25b0
            try clear c25b1
            try clear hcz11_0
            try clear hcz11_1
            try clear hcz19_0
            try clear hcz19_1
            try clear hcz21_0
            try clear hcz21_1
            try clear hfz11_0
            try clear hfz11_1
            try clear hfz19_0
            try clear hfz19_1
            try clear hfz21_0
            try clear hfz21_1
            try clear p2
            obtain ⟨kq, x59_16, rfl, HA, HJ16, BK196, HB⟩ := hcut
            cases kq with
            | zero => exact absurd HA.out (by simp [cohousinglaw02_MoneyRounds.j1])
            | succ kj16 =>
              have H := HA.out
              clear HA
              simp only [cohousinglaw02_MoneyRounds.j1] at H
              by_cases c26 : x59_16 = true
              · subst c26
                have H1 : (none) = some r := by rw [if_pos rfl] at H; exact H
                clear H
                have H := H1
                clear H1
                exact absurd H (by simp)
              · replace c26 := Bool.eq_false_iff.mpr c26
                subst c26
                have H1 : (if t203 = 0 then ((cohousingref02_Amount.f t202).bind fun t206 => (if t206 = true then (if (wrap64 (2 * (wrap64 ((wrap64 (t202 * a1_1)) - (wrap64 (a0 * a1_0)))))) ≤ a1_1 then (if (wrap64 ((-2) * (wrap64 ((wrap64 (t202 * a1_1)) - (wrap64 (a0 * a1_0)))))) ≤ a1_1 then (some true) else (none)) else (none)) else (none))) else (if t203 = 3 then (if t202 = 0 then (some true) else (none)) else (none))) = some r := by rw [if_neg (show ¬ (false = true) by decide)] at H; exact H
                clear H
                have H := H1
                clear H1
                by_cases c27 : t203 = 0
                · rw [if_pos c27] at H
                  have c27b0 : (t203 == 0) = true := beq_iff_eq.mpr c27
                  have c27b1 : (t203 != 0) = false := bne_eq_false_iff_eq.mpr c27
                  clear c27
                  replace H := Option.bind_eq_some_iff.mp H
                  obtain ⟨t206, A280, H⟩ := H
                  replace H : (if t206 = true then (if (wrap64 (2 * (wrap64 ((wrap64 (t202 * a1_1)) - (wrap64 (a0 * a1_0)))))) ≤ a1_1 then (if (wrap64 ((-2) * (wrap64 ((wrap64 (t202 * a1_1)) - (wrap64 (a0 * a1_0)))))) ≤ a1_1 then (some true) else (none)) else (none)) else (none)) = some r := H
                  have A28 := Aside0.mk A280
                  clear A280
                  by_cases c29 : t206 = true
                  · subst c29
                    have H1 : (if (wrap64 (2 * (wrap64 ((wrap64 (t202 * a1_1)) - (wrap64 (a0 * a1_0)))))) ≤ a1_1 then (if (wrap64 ((-2) * (wrap64 ((wrap64 (t202 * a1_1)) - (wrap64 (a0 * a1_0)))))) ≤ a1_1 then (some true) else (none)) else (none)) = some r := by rw [if_pos rfl] at H; exact H
                    clear H
                    have H := H1
                    clear H1
                    by_cases c30 : (wrap64 (2 * (wrap64 ((wrap64 (t202 * a1_1)) - (wrap64 (a0 * a1_0)))))) ≤ a1_1
                    · rw [if_pos c30] at H
                      have c30b0 : decide ((wrap64 (2 * (wrap64 ((wrap64 (t202 * a1_1)) - (wrap64 (a0 * a1_0)))))) ≤ a1_1) = true := decide_eq_true c30
                      clear c30
                      by_cases c31 : (wrap64 ((-2) * (wrap64 ((wrap64 (t202 * a1_1)) - (wrap64 (a0 * a1_0)))))) ≤ a1_1
                      · rw [if_pos c31] at H
                        have c31b0 : decide ((wrap64 ((-2) * (wrap64 ((wrap64 (t202 * a1_1)) - (wrap64 (a0 * a1_0)))))) ≤ a1_1) = true := decide_eq_true c31
                        clear c31
                        obtain rfl := Option.some.inj H
                        have hcz32_0 : wc.cell? ⟨gb196, 0, none⟩ = some (.int .i64 a1_0) := (blk_cell BK196.out 0).trans rfl
                        have hcz32_1 : wc.cell? ⟨gb196, 1, none⟩ = some (.int .i64 a1_1) := (blk_cell BK196.out 1).trans rfl
                        have hfz32_0 := blk_frozen BK196.out 0
                        have hfz32_1 := blk_frozen BK196.out 1
                        go_wp2_with (first | (go_at_call 12; (with_reducible refine (cohousingref02_Amount.calls t202 true _ A28.out).mono ?_); rintro e w' ⟨rfl, ⟨nd, rfl⟩⟩))
                        go_ret
                        exact ⟨by first | rfl | (simp [errW_none, errW_some] <;> rfl) | (simp [*, errW_none, errW_some] <;> rfl), by repeat (first | (with_reducible first | exact HB.out | apply below_alloc | apply pw_below_drewN | apply below_drew1 | refine below_set ?_ GE196.out) | exact HB.out)⟩
                      · rw [if_neg c31] at H
                        exact absurd H (by simp)
                    · rw [if_neg c30] at H
                      exact absurd H (by simp)
                  · replace c29 := Bool.eq_false_iff.mpr c29
                    subst c29
                    have H1 : (none) = some r := by rw [if_neg (show ¬ (false = true) by decide)] at H; exact H
                    clear H
                    have H := H1
                    clear H1
                    exact absurd H (by simp)
                · rw [if_neg c27] at H
                  have c27b0 : (t203 == 0) = false := beq_eq_false_iff_ne.mpr c27
                  have c27b1 : (t203 != 0) = true := bne_iff_ne.mpr c27
                  by_cases c33 : t203 = 3
                  · rw [if_pos c33] at H
                    have c33b0 : (t203 == 3) = true := beq_iff_eq.mpr c33
                    have c33b1 : (t203 != 3) = false := bne_eq_false_iff_eq.mpr c33
                    clear c33
                    by_cases c34 : t202 = 0
                    · rw [if_pos c34] at H
                      have c34b0 : (t202 == 0) = true := beq_iff_eq.mpr c34
                      have c34b1 : (t202 != 0) = false := bne_eq_false_iff_eq.mpr c34
                      clear c34
                      obtain rfl := Option.some.inj H
                      go_wp2
                      go_ret
                      exact ⟨by first | rfl | (simp [errW_none, errW_some] <;> rfl) | (simp [*, errW_none, errW_some] <;> rfl), by repeat (first | (with_reducible first | exact HB.out | apply below_alloc | apply pw_below_drewN | apply below_drew1 | refine below_set ?_ GE196.out) | exact HB.out)⟩
                    · rw [if_neg c34] at H
                      exact absurd H (by simp)
                  · rw [if_neg c33] at H
                    exact absurd H (by simp)
  · replace c4 := Bool.eq_false_iff.mpr c4
    subst c4
    have H1 : (none) = some r := by rw [if_neg (show ¬ (false = true) by decide)] at H; exact H
    clear H
    have H := H1
    clear H1
    exact absurd H (by simp)

/-! ### cohousinglaw02_MoneyMonotone: function 5 -/
def cohousinglaw02_MoneyMonotone.j0 : Nat → Int → Int → Bool → Int → Int → Option (Bool)
  | 0, _, _, _, _, _ => none
  | k + 1, x0, x1, x20, x208000, x208001 => if x20 = true then (some true) else ((money_Scale.f k (mn x0 x1) x208000 x208001).bind fun bt210 => ((money_Scale.f k (mx x0 x1) x208000 x208001).bind fun bt212 => (if bt210.2 = 0 then (if bt212.2 = 0 then (if bt210.1 ≤ bt212.1 then (some true) else (none)) else (some true)) else (some true))))
def cohousinglaw02_MoneyMonotone.f (k : Nat) (a0 : Int) (a1 : Int) (a2_0 : Int) (a2_1 : Int) : Option (Bool) := (cohousinglaw02_head.f k).bind fun t208 => (if t208 = true then ((cohousingref01_Valid.f k a2_0 a2_1).bind fun t209 => (if t209 = true then (cohousinglaw02_MoneyMonotone.j0 k a0 a1 (decide (a2_0 < 0)) a2_0 a2_1) else (cohousinglaw02_MoneyMonotone.j0 k a0 a1 true a2_0 a2_1))) else (none))
theorem cohousinglaw02_MoneyMonotone.mono_l : ∀ k, (∀ y0 y1 y2 y3 y4, LeO (cohousinglaw02_MoneyMonotone.j0 k y0 y1 y2 y3 y4) (cohousinglaw02_MoneyMonotone.j0 (k + 1) y0 y1 y2 y3 y4))
  | 0 => fun _ _ _ _ _ r h => by simp [cohousinglaw02_MoneyMonotone.j0] at h
  | k + 1 => by
    have ih0 := cohousinglaw02_MoneyMonotone.mono_l k
    · intro y0 y1 y2 y3 y4
      unfold cohousinglaw02_MoneyMonotone.j0
      repeat' first
      | (with_reducible exact ih0 _ _ _ _ _)
      | (with_reducible exact cohousinglaw02_head.mono _)
      | (with_reducible exact cohousingref01_Valid.mono _ _ _)
      | (with_reducible exact money_Scale.mono _ _ _ _)
      | (with_reducible exact LeO.refl _)
      | (with_reducible exact LeO.none _)
      | (with_reducible refine LeO.ite ?_ ?_)
      | (with_reducible refine LeO.bind ?_ (fun _ => ?_))
      | exact ih0 _ _ _ _ _
      | exact cohousinglaw02_head.mono _
      | exact cohousingref01_Valid.mono _ _ _
      | exact money_Scale.mono _ _ _ _
      | exact LeO.none _
      | refine LeO.ite ?_ ?_
      | refine LeO.bind ?_ (fun _ => ?_)
theorem cohousinglaw02_MoneyMonotone.mono : ∀ a0 a1 a2 a3 k, LeO (cohousinglaw02_MoneyMonotone.f k a0 a1 a2 a3) (cohousinglaw02_MoneyMonotone.f (k + 1) a0 a1 a2 a3) := by
  intro a0 a1 a2 a3 k
  have ih0 := cohousinglaw02_MoneyMonotone.mono_l k
  unfold cohousinglaw02_MoneyMonotone.f
  repeat' first
      | (with_reducible exact ih0 _ _ _ _ _)
      | (with_reducible exact cohousinglaw02_head.mono _)
      | (with_reducible exact cohousingref01_Valid.mono _ _ _)
      | (with_reducible exact money_Scale.mono _ _ _ _)
      | (with_reducible exact LeO.refl _)
      | (with_reducible exact LeO.none _)
      | (with_reducible refine LeO.ite ?_ ?_)
      | (with_reducible refine LeO.bind ?_ (fun _ => ?_))
      | exact ih0 _ _ _ _ _
      | exact cohousinglaw02_head.mono _
      | exact cohousingref01_Valid.mono _ _ _
      | exact money_Scale.mono _ _ _ _
      | exact LeO.none _
      | refine LeO.ite ?_ ?_
      | refine LeO.bind ?_ (fun _ => ?_)
set_option maxHeartbeats 8000000 in
set_option maxRecDepth 100000 in
theorem cohousinglaw02_MoneyMonotone.calls (k : Nat) (a0 : Int) (a1 : Int) (a2_0 : Int) (a2_1 : Int) (r : Bool) (w : World) (hG : GL w) (h : cohousinglaw02_MoneyMonotone.f k a0 a1 a2_0 a2_1 = some r) :
    Calls Tryd.prog 5 #[.int .i64 a0, .int .i64 a1, .agg #[.int .i64 a2_0, .int .i64 a2_1]] w fun e w' => e = .returned (.bool r) ∧ Below w.heap.size w w' := by
  have hu29 := Tryd.underlying29
  have HG := Aside0.mk hG
  clear hG
  have HB := Aside0.mk (Below.refl w.heap.size w)
  have H : ((cohousinglaw02_head.f k).bind fun t208 => (if t208 = true then ((cohousingref01_Valid.f k a2_0 a2_1).bind fun t209 => (if t209 = true then (cohousinglaw02_MoneyMonotone.j0 k a0 a1 (decide (a2_0 < 0)) a2_0 a2_1) else (cohousinglaw02_MoneyMonotone.j0 k a0 a1 true a2_0 a2_1))) else (none))) = some r := h
  clear h
  replace H := Option.bind_eq_some_iff.mp H
  obtain ⟨t208, A40, H⟩ := H
  replace H : (if t208 = true then ((cohousingref01_Valid.f k a2_0 a2_1).bind fun t209 => (if t209 = true then (cohousinglaw02_MoneyMonotone.j0 k a0 a1 (decide (a2_0 < 0)) a2_0 a2_1) else (cohousinglaw02_MoneyMonotone.j0 k a0 a1 true a2_0 a2_1))) else (none)) = some r := H
  have A4 := Aside0.mk A40
  clear A40
  by_cases c5 : t208 = true
  · subst c5
    have H1 : ((cohousingref01_Valid.f k a2_0 a2_1).bind fun t209 => (if t209 = true then (cohousinglaw02_MoneyMonotone.j0 k a0 a1 (decide (a2_0 < 0)) a2_0 a2_1) else (cohousinglaw02_MoneyMonotone.j0 k a0 a1 true a2_0 a2_1))) = some r := by rw [if_pos rfl] at H; exact H
    clear H
    have H := H1
    clear H1
    have HC6 := Aside0.mk H
    clear H
    go_enter Tryd.func5, Tryd.ntmps5
    go_upto_region 2 with (first | ((with_reducible refine gate_dst (N := 5) rfl ?_); refine box_event ?hg (N := 5) ?hd (cs := #[.int .i64 a2_0, .int .i64 a2_1]) (t := 29) ?hr ?_; (case hd => rfl); (case hg => rfl); (case hr => first | (go_simp; done) | (go_simp; rfl)); intro gb207 hg w7 hbox hb; have n0_ := Aside0.mk (below_step (by repeat (first | (with_reducible first | exact HB.out | apply below_alloc | apply pw_below_drewN | apply below_drew1) | exact HB.out)) hb); have n1_ := Aside0.mk (hbox); have n2_ := Aside0.mk ((by rw [hg]; exact (below_size (by repeat (first | (with_reducible first | exact HB.out | apply below_alloc | apply pw_below_drewN | apply below_drew1) | exact HB.out))) : w.heap.size ≤ gb207)); have n3_ := Aside0.mk ((by rw [hg]; exact (below_size (by repeat (first | (with_reducible first | exact HB.out | apply below_alloc | apply pw_below_drewN | apply below_drew1) | exact HB.out))) : w.heap.size ≤ gb207)); clear HB; have HB := n0_; have BK207 := n1_; have GW207 := n2_; have GE207 := n3_; clear n0_ n1_ n2_ n3_; clear hb hbox hg) | ((with_reducible refine gate_callee (f := 10) rfl ?_); refine goesL_ (some 12) rfl rfl Tryd.func10 (by kernel_rfl) rfl #[] rfl (by (try simp only [List.map_toArray, List.map_cons, List.map_nil]); first | done | rfl | (simp only [List.length_drop, List.length_take]; rfl)) ?_; (with_reducible refine (cohousinglaw02_head.calls k  true _ ?side1 A4.out).mono ?_); (case side1 => exact GL.below HG.out (by repeat (first | (with_reducible first | exact HB.out | apply below_alloc | apply pw_below_drewN | apply below_drew1 | refine below_set ?_ GE207.out) | exact HB.out))); rintro e w8 ⟨rfl, hb⟩; refine ⟨_, rfl, ?_⟩; have n0_ := Aside0.mk (blk_below (g := gb207) (o := .cells #[.int .i64 a2_0, .int .i64 a2_1] 29 (0, 0)) (by (with_reducible repeat (first | refine blk_drewN ?_ _ | refine blk_drew ?_ | refine blk_alloc ?_ _)); exact BK207.out) hb); have n1_ := Aside0.mk (below_step (by repeat (first | (with_reducible first | exact HB.out | apply below_alloc | apply pw_below_drewN | apply below_drew1 | refine below_set ?_ GE207.out) | exact HB.out)) hb); clear BK207; clear HB; have BK207 := n0_; have HB := n1_; clear n0_ n1_; (try clear hb); (try clear hb2); (try clear hk); (try clear hi)))
    (try simp only [Act.put, List.setIfInBounds_toArray, List.set_cons_zero, List.set_cons_succ])
    go_cut [20] (fun v20 wc => ∃ (kq : Nat) (x20_5 : Bool), v20 = .bool x20_5 ∧ Aside0 (cohousinglaw02_MoneyMonotone.j0 kq a0 a1 x20_5 a2_0 a2_1 = some r) ∧ Aside0 (kq ≤ k) ∧ Aside0 (wc.heap[gb207]? = some (.cells #[.int .i64 a2_0, .int .i64 a2_1] 29 (0, 0))) ∧ Aside0 (Below w.heap.size w wc))
    case first =>
      have H := HC6.out
      clear HC6
      replace H := Option.bind_eq_some_iff.mp H
      obtain ⟨t209, A90, H⟩ := H
      replace H : (if t209 = true then (cohousinglaw02_MoneyMonotone.j0 k a0 a1 (decide (a2_0 < 0)) a2_0 a2_1) else (cohousinglaw02_MoneyMonotone.j0 k a0 a1 true a2_0 a2_1)) = some r := H
      have A9 := Aside0.mk A90
      clear A90
      by_cases c10 : t209 = true
      · subst c10
        have H1 : (cohousinglaw02_MoneyMonotone.j0 k a0 a1 (decide (a2_0 < 0)) a2_0 a2_1) = some r := by rw [if_pos rfl] at H; exact H
        clear H
        have H := H1
        clear H1
        have H' := Aside0.mk H
        clear H
        have hcz11_0 : w8.cell? ⟨gb207, 0, none⟩ = some (.int .i64 a2_0) := (blk_cell BK207.out 0).trans rfl
        have hcz11_1 : w8.cell? ⟨gb207, 1, none⟩ = some (.int .i64 a2_1) := (blk_cell BK207.out 1).trans rfl
        have hfz11_0 := blk_frozen BK207.out 0
        have hfz11_1 := blk_frozen BK207.out 1
        go_wp2_with (first | ((with_reducible refine gate_callee (f := 13) rfl ?_); refine goesL_ (some 14) rfl rfl Tryd.func13 (by kernel_rfl) rfl #[.agg #[.int .i64 a2_0, .int .i64 a2_1]] rfl (by (try simp only [List.map_toArray, List.map_cons, List.map_nil]); first | done | rfl | (simp only [List.length_drop, List.length_take]; rfl)) ?_; (with_reducible refine (cohousingref01_Valid.calls k a2_0 a2_1 true _ A9.out).mono ?_); rintro e w12 ⟨rfl, hb⟩; refine ⟨_, rfl, ?_⟩; have n0_ := Aside0.mk (blk_below (g := gb207) (o := .cells #[.int .i64 a2_0, .int .i64 a2_1] 29 (0, 0)) (by (with_reducible repeat (first | refine blk_drewN ?_ _ | refine blk_drew ?_ | refine blk_alloc ?_ _)); exact BK207.out) hb); have n1_ := Aside0.mk (below_step (by repeat (first | (with_reducible first | exact HB.out | apply below_alloc | apply pw_below_drewN | apply below_drew1 | refine below_set ?_ GE207.out) | exact HB.out)) hb); clear BK207; clear HB; have BK207 := n0_; have HB := n1_; clear n0_ n1_; (try clear hb); (try clear hb2); (try clear hk); (try clear hi); have hcz13_0 : w12.cell? ⟨gb207, 0, none⟩ = some (.int .i64 a2_0) := (blk_cell BK207.out 0).trans rfl; have hcz13_1 : w12.cell? ⟨gb207, 1, none⟩ = some (.int .i64 a2_1) := (blk_cell BK207.out 1).trans rfl; have hfz13_0 := blk_frozen BK207.out 0; have hfz13_1 := blk_frozen BK207.out 1))
        go_meet
        case rel => exact ⟨_, (decide (a2_0 < 0)), (by first | rfl | (simp; done) | (simp [*]; done)), H', ⟨by first | omega | exact Nat.le_refl _⟩, ⟨by (with_reducible repeat (first | refine blk_drewN ?_ _ | refine blk_drew ?_ | refine blk_alloc ?_ _)); exact BK207.out⟩, ⟨by repeat (first | (with_reducible first | exact HB.out | apply below_alloc | apply pw_below_drewN | apply below_drew1 | refine below_set ?_ GE207.out) | exact HB.out)⟩⟩
      · replace c10 := Bool.eq_false_iff.mpr c10
        subst c10
        have H1 : (cohousinglaw02_MoneyMonotone.j0 k a0 a1 true a2_0 a2_1) = some r := by rw [if_neg (show ¬ (false = true) by decide)] at H; exact H
        clear H
        have H := H1
        clear H1
        have H' := Aside0.mk H
        clear H
        have hcz14_0 : w8.cell? ⟨gb207, 0, none⟩ = some (.int .i64 a2_0) := (blk_cell BK207.out 0).trans rfl
        have hcz14_1 : w8.cell? ⟨gb207, 1, none⟩ = some (.int .i64 a2_1) := (blk_cell BK207.out 1).trans rfl
        have hfz14_0 := blk_frozen BK207.out 0
        have hfz14_1 := blk_frozen BK207.out 1
        go_wp2_with (first | ((with_reducible refine gate_callee (f := 13) rfl ?_); refine goesL_ (some 14) rfl rfl Tryd.func13 (by kernel_rfl) rfl #[.agg #[.int .i64 a2_0, .int .i64 a2_1]] rfl (by (try simp only [List.map_toArray, List.map_cons, List.map_nil]); first | done | rfl | (simp only [List.length_drop, List.length_take]; rfl)) ?_; (with_reducible refine (cohousingref01_Valid.calls k a2_0 a2_1 false _ A9.out).mono ?_); rintro e w15 ⟨rfl, hb⟩; refine ⟨_, rfl, ?_⟩; have n0_ := Aside0.mk (blk_below (g := gb207) (o := .cells #[.int .i64 a2_0, .int .i64 a2_1] 29 (0, 0)) (by (with_reducible repeat (first | refine blk_drewN ?_ _ | refine blk_drew ?_ | refine blk_alloc ?_ _)); exact BK207.out) hb); have n1_ := Aside0.mk (below_step (by repeat (first | (with_reducible first | exact HB.out | apply below_alloc | apply pw_below_drewN | apply below_drew1 | refine below_set ?_ GE207.out) | exact HB.out)) hb); clear BK207; clear HB; have BK207 := n0_; have HB := n1_; clear n0_ n1_; (try clear hb); (try clear hb2); (try clear hk); (try clear hi)))
        go_meet
        case rel => exact ⟨_, (true), (by first | rfl | (simp; done) | (simp [*]; done)), H', ⟨by first | omega | exact Nat.le_refl _⟩, ⟨by (with_reducible repeat (first | refine blk_drewN ?_ _ | refine blk_drew ?_ | refine blk_alloc ?_ _)); exact BK207.out⟩, ⟨by repeat (first | (with_reducible first | exact HB.out | apply below_alloc | apply pw_below_drewN | apply below_drew1 | refine below_set ?_ GE207.out) | exact HB.out)⟩⟩
    case rest =>
      clear HC6
      try clear c1
      try clear p2
      try clear c5
      try clear c10
      try clear c13
      try clear hcz11_0
      try clear hcz11_1
      try clear hcz13_0
      try clear hcz13_1
      try clear hcz14_0
      try clear hcz14_1
      try clear hfz11_0
      try clear hfz11_1
      try clear hfz13_0
      try clear hfz13_1
      try clear hfz14_0
      try clear hfz14_1
      obtain ⟨kq, x20_5, rfl, HA, HJ5, BK207, HB⟩ := hcut
      cases kq with
      | zero => exact absurd HA.out (by simp [cohousinglaw02_MoneyMonotone.j0])
      | succ kj5 =>
        have H := HA.out
        clear HA
        simp only [cohousinglaw02_MoneyMonotone.j0] at H
        by_cases c16 : x20_5 = true
        · subst c16
          have H1 : (some true) = some r := by rw [if_pos rfl] at H; exact H
          clear H
          have H := H1
          clear H1
          obtain rfl := Option.some.inj H
          go_wp2
          go_ret
          exact ⟨by first | rfl | (simp [errW_none, errW_some] <;> rfl) | (simp [*, errW_none, errW_some] <;> rfl), by repeat (first | (with_reducible first | exact HB.out | apply below_alloc | apply pw_below_drewN | apply below_drew1 | refine below_set ?_ GE207.out) | exact HB.out)⟩
        · replace c16 := Bool.eq_false_iff.mpr c16
          subst c16
          have H1 : ((money_Scale.f kj5 (mn a0 a1) a2_0 a2_1).bind fun bt210 => ((money_Scale.f kj5 (mx a0 a1) a2_0 a2_1).bind fun bt212 => (if bt210.2 = 0 then (if bt212.2 = 0 then (if bt210.1 ≤ bt212.1 then (some true) else (none)) else (some true)) else (some true)))) = some r := by rw [if_neg (show ¬ (false = true) by decide)] at H; exact H
          clear H
          have H := H1
          clear H1
          obtain ⟨ji17, hji17⟩ : ∃ j_ : Int, (mn a0 a1) = j_ := ⟨_, rfl⟩
          replace H : ((money_Scale.f kj5 (ji17) a2_0 a2_1).bind fun bt210 => ((money_Scale.f kj5 (mx a0 a1) a2_0 a2_1).bind fun bt212 => (if bt210.2 = 0 then (if bt212.2 = 0 then (if bt210.1 ≤ bt212.1 then (some true) else (none)) else (some true)) else (some true)))) = some r := by first | (rw [hji17] at H; exact H) | (simp only [hji17] at H ⊢; exact H)
          have hji17_ : (if a1 < a0 then a1 else a0) = ji17 := hji17
          replace H := Option.bind_eq_some_iff.mp H
          obtain ⟨⟨t210, t211⟩, A180, H⟩ := H
          replace H : ((money_Scale.f kj5 (mx a0 a1) a2_0 a2_1).bind fun bt212 => (if t211 = 0 then (if bt212.2 = 0 then (if t210 ≤ bt212.1 then (some true) else (none)) else (some true)) else (some true))) = some r := H
          have A18 := Aside0.mk A180
          clear A180
          obtain ⟨ji19, hji19⟩ : ∃ j_ : Int, (mx a0 a1) = j_ := ⟨_, rfl⟩
          replace H : ((money_Scale.f kj5 (ji19) a2_0 a2_1).bind fun bt212 => (if t211 = 0 then (if bt212.2 = 0 then (if t210 ≤ bt212.1 then (some true) else (none)) else (some true)) else (some true))) = some r := by first | (rw [hji19] at H; exact H) | (simp only [hji19] at H ⊢; exact H)
          (try rw [hji19] at A18)
          have hji19_ : (if a0 < a1 then a1 else a0) = ji19 := hji19
          replace H := Option.bind_eq_some_iff.mp H
          obtain ⟨⟨t212, t213⟩, A200, H⟩ := H
          replace H : (if t211 = 0 then (if t213 = 0 then (if t210 ≤ t212 then (some true) else (none)) else (some true)) else (some true)) = some r := H
          have A20 := Aside0.mk A200
          clear A200
          by_cases c21 : t211 = 0
          · rw [if_pos c21] at H
            have c21b0 : (t211 == 0) = true := beq_iff_eq.mpr c21
            have c21b1 : (t211 != 0) = false := bne_eq_false_iff_eq.mpr c21
            clear c21
            by_cases c22 : t213 = 0
            · rw [if_pos c22] at H
              have c22b0 : (t213 == 0) = true := beq_iff_eq.mpr c22
              have c22b1 : (t213 != 0) = false := bne_eq_false_iff_eq.mpr c22
              clear c22
              by_cases c23 : t210 ≤ t212
              · rw [if_pos c23] at H
                have c23b0 : decide (t210 ≤ t212) = true := decide_eq_true c23
                clear c23
                obtain rfl := Option.some.inj H
                have hcz24_0 : wc.cell? ⟨gb207, 0, none⟩ = some (.int .i64 a2_0) := (blk_cell BK207.out 0).trans rfl
                have hcz24_1 : wc.cell? ⟨gb207, 1, none⟩ = some (.int .i64 a2_1) := (blk_cell BK207.out 1).trans rfl
                have hfz24_0 := blk_frozen BK207.out 0
                have hfz24_1 := blk_frozen BK207.out 1
                go_wp2_with (first | ((with_reducible refine gate_callee (f := 14) rfl ?_); refine goesL_ (some 27) rfl rfl Tryd.func14 (by kernel_rfl) rfl #[.int .i64 ji17, .agg #[.int .i64 a2_0, .int .i64 a2_1]] rfl (by (try simp only [List.map_toArray, List.map_cons, List.map_nil]); first | done | (simp only [hji17]; rfl) | rfl | (simp only [List.length_drop, List.length_take]; rfl)) ?_; (with_reducible refine (money_Scale.calls kj5 ji17 a2_0 a2_1 t210 t211 _ A18.out).mono ?_); rintro e w25 ⟨rfl, hb⟩; refine ⟨_, rfl, ?_⟩; have n0_ := Aside0.mk (blk_below (g := gb207) (o := .cells #[.int .i64 a2_0, .int .i64 a2_1] 29 (0, 0)) (by (with_reducible repeat (first | refine blk_drewN ?_ _ | refine blk_drew ?_ | refine blk_alloc ?_ _)); exact BK207.out) hb); have n1_ := Aside0.mk (below_step (by repeat (first | (with_reducible first | exact HB.out | apply below_alloc | apply pw_below_drewN | apply below_drew1 | refine below_set ?_ GE207.out) | exact HB.out)) hb); clear BK207; clear HB; have BK207 := n0_; have HB := n1_; clear n0_ n1_; (try clear hb); (try clear hb2); (try clear hk); (try clear hi); have hcz26_0 : w25.cell? ⟨gb207, 0, none⟩ = some (.int .i64 a2_0) := (blk_cell BK207.out 0).trans rfl; have hcz26_1 : w25.cell? ⟨gb207, 1, none⟩ = some (.int .i64 a2_1) := (blk_cell BK207.out 1).trans rfl; have hfz26_0 := blk_frozen BK207.out 0; have hfz26_1 := blk_frozen BK207.out 1) | ((with_reducible refine gate_callee (f := 14) rfl ?_); refine goesL_ (some 35) rfl rfl Tryd.func14 (by kernel_rfl) rfl #[.int .i64 ji19, .agg #[.int .i64 a2_0, .int .i64 a2_1]] rfl (by (try simp only [List.map_toArray, List.map_cons, List.map_nil]); first | done | (simp only [hji19]; rfl) | rfl | (simp only [List.length_drop, List.length_take]; rfl)) ?_; (with_reducible refine (money_Scale.calls kj5 ji19 a2_0 a2_1 t212 t213 _ A20.out).mono ?_); rintro e w27 ⟨rfl, hb⟩; refine ⟨_, rfl, ?_⟩; have n0_ := Aside0.mk (blk_below (g := gb207) (o := .cells #[.int .i64 a2_0, .int .i64 a2_1] 29 (0, 0)) (by (with_reducible repeat (first | refine blk_drewN ?_ _ | refine blk_drew ?_ | refine blk_alloc ?_ _)); exact BK207.out) hb); have n1_ := Aside0.mk (below_step (by repeat (first | (with_reducible first | exact HB.out | apply below_alloc | apply pw_below_drewN | apply below_drew1 | refine below_set ?_ GE207.out) | exact HB.out)) hb); clear BK207; clear HB; have BK207 := n0_; have HB := n1_; clear n0_ n1_; (try clear hb); (try clear hb2); (try clear hk); (try clear hi)))
                go_ret
                exact ⟨by first | rfl | (simp [errW_none, errW_some] <;> rfl) | (simp only [← hji17, ← hji19]; first | rfl | (simp [errW_none, errW_some] <;> rfl)) | (simp [*, errW_none, errW_some] <;> rfl), by repeat (first | (with_reducible first | exact HB.out | apply below_alloc | apply pw_below_drewN | apply below_drew1 | refine below_set ?_ GE207.out) | exact HB.out)⟩
              · rw [if_neg c23] at H
                exact absurd H (by simp)
            · rw [if_neg c22] at H
              have c22b0 : (t213 == 0) = false := beq_eq_false_iff_ne.mpr c22
              have c22b1 : (t213 != 0) = true := bne_iff_ne.mpr c22
              obtain rfl := Option.some.inj H
              have hcz28_0 : wc.cell? ⟨gb207, 0, none⟩ = some (.int .i64 a2_0) := (blk_cell BK207.out 0).trans rfl
              have hcz28_1 : wc.cell? ⟨gb207, 1, none⟩ = some (.int .i64 a2_1) := (blk_cell BK207.out 1).trans rfl
              have hfz28_0 := blk_frozen BK207.out 0
              have hfz28_1 := blk_frozen BK207.out 1
              go_wp2_with (first | ((with_reducible refine gate_callee (f := 14) rfl ?_); refine goesL_ (some 27) rfl rfl Tryd.func14 (by kernel_rfl) rfl #[.int .i64 ji17, .agg #[.int .i64 a2_0, .int .i64 a2_1]] rfl (by (try simp only [List.map_toArray, List.map_cons, List.map_nil]); first | done | (simp only [hji17]; rfl) | rfl | (simp only [List.length_drop, List.length_take]; rfl)) ?_; (with_reducible refine (money_Scale.calls kj5 ji17 a2_0 a2_1 t210 t211 _ A18.out).mono ?_); rintro e w29 ⟨rfl, hb⟩; refine ⟨_, rfl, ?_⟩; have n0_ := Aside0.mk (blk_below (g := gb207) (o := .cells #[.int .i64 a2_0, .int .i64 a2_1] 29 (0, 0)) (by (with_reducible repeat (first | refine blk_drewN ?_ _ | refine blk_drew ?_ | refine blk_alloc ?_ _)); exact BK207.out) hb); have n1_ := Aside0.mk (below_step (by repeat (first | (with_reducible first | exact HB.out | apply below_alloc | apply pw_below_drewN | apply below_drew1 | refine below_set ?_ GE207.out) | exact HB.out)) hb); clear BK207; clear HB; have BK207 := n0_; have HB := n1_; clear n0_ n1_; (try clear hb); (try clear hb2); (try clear hk); (try clear hi); have hcz30_0 : w29.cell? ⟨gb207, 0, none⟩ = some (.int .i64 a2_0) := (blk_cell BK207.out 0).trans rfl; have hcz30_1 : w29.cell? ⟨gb207, 1, none⟩ = some (.int .i64 a2_1) := (blk_cell BK207.out 1).trans rfl; have hfz30_0 := blk_frozen BK207.out 0; have hfz30_1 := blk_frozen BK207.out 1) | ((with_reducible refine gate_callee (f := 14) rfl ?_); refine goesL_ (some 35) rfl rfl Tryd.func14 (by kernel_rfl) rfl #[.int .i64 ji19, .agg #[.int .i64 a2_0, .int .i64 a2_1]] rfl (by (try simp only [List.map_toArray, List.map_cons, List.map_nil]); first | done | (simp only [hji19]; rfl) | rfl | (simp only [List.length_drop, List.length_take]; rfl)) ?_; (with_reducible refine (money_Scale.calls kj5 ji19 a2_0 a2_1 t212 t213 _ A20.out).mono ?_); rintro e w31 ⟨rfl, hb⟩; refine ⟨_, rfl, ?_⟩; have n0_ := Aside0.mk (blk_below (g := gb207) (o := .cells #[.int .i64 a2_0, .int .i64 a2_1] 29 (0, 0)) (by (with_reducible repeat (first | refine blk_drewN ?_ _ | refine blk_drew ?_ | refine blk_alloc ?_ _)); exact BK207.out) hb); have n1_ := Aside0.mk (below_step (by repeat (first | (with_reducible first | exact HB.out | apply below_alloc | apply pw_below_drewN | apply below_drew1 | refine below_set ?_ GE207.out) | exact HB.out)) hb); clear BK207; clear HB; have BK207 := n0_; have HB := n1_; clear n0_ n1_; (try clear hb); (try clear hb2); (try clear hk); (try clear hi)))
              go_ret
              exact ⟨by first | rfl | (simp [errW_none, errW_some] <;> rfl) | (simp only [← hji17, ← hji19]; first | rfl | (simp [errW_none, errW_some] <;> rfl)) | (simp [*, errW_none, errW_some] <;> rfl), by repeat (first | (with_reducible first | exact HB.out | apply below_alloc | apply pw_below_drewN | apply below_drew1 | refine below_set ?_ GE207.out) | exact HB.out)⟩
          · rw [if_neg c21] at H
            have c21b0 : (t211 == 0) = false := beq_eq_false_iff_ne.mpr c21
            have c21b1 : (t211 != 0) = true := bne_iff_ne.mpr c21
            obtain rfl := Option.some.inj H
            have hcz32_0 : wc.cell? ⟨gb207, 0, none⟩ = some (.int .i64 a2_0) := (blk_cell BK207.out 0).trans rfl
            have hcz32_1 : wc.cell? ⟨gb207, 1, none⟩ = some (.int .i64 a2_1) := (blk_cell BK207.out 1).trans rfl
            have hfz32_0 := blk_frozen BK207.out 0
            have hfz32_1 := blk_frozen BK207.out 1
            go_wp2_with (first | ((with_reducible refine gate_callee (f := 14) rfl ?_); refine goesL_ (some 27) rfl rfl Tryd.func14 (by kernel_rfl) rfl #[.int .i64 ji17, .agg #[.int .i64 a2_0, .int .i64 a2_1]] rfl (by (try simp only [List.map_toArray, List.map_cons, List.map_nil]); first | done | (simp only [hji17]; rfl) | rfl | (simp only [List.length_drop, List.length_take]; rfl)) ?_; (with_reducible refine (money_Scale.calls kj5 ji17 a2_0 a2_1 t210 t211 _ A18.out).mono ?_); rintro e w33 ⟨rfl, hb⟩; refine ⟨_, rfl, ?_⟩; have n0_ := Aside0.mk (blk_below (g := gb207) (o := .cells #[.int .i64 a2_0, .int .i64 a2_1] 29 (0, 0)) (by (with_reducible repeat (first | refine blk_drewN ?_ _ | refine blk_drew ?_ | refine blk_alloc ?_ _)); exact BK207.out) hb); have n1_ := Aside0.mk (below_step (by repeat (first | (with_reducible first | exact HB.out | apply below_alloc | apply pw_below_drewN | apply below_drew1 | refine below_set ?_ GE207.out) | exact HB.out)) hb); clear BK207; clear HB; have BK207 := n0_; have HB := n1_; clear n0_ n1_; (try clear hb); (try clear hb2); (try clear hk); (try clear hi); have hcz34_0 : w33.cell? ⟨gb207, 0, none⟩ = some (.int .i64 a2_0) := (blk_cell BK207.out 0).trans rfl; have hcz34_1 : w33.cell? ⟨gb207, 1, none⟩ = some (.int .i64 a2_1) := (blk_cell BK207.out 1).trans rfl; have hfz34_0 := blk_frozen BK207.out 0; have hfz34_1 := blk_frozen BK207.out 1) | ((with_reducible refine gate_callee (f := 14) rfl ?_); refine goesL_ (some 35) rfl rfl Tryd.func14 (by kernel_rfl) rfl #[.int .i64 ji19, .agg #[.int .i64 a2_0, .int .i64 a2_1]] rfl (by (try simp only [List.map_toArray, List.map_cons, List.map_nil]); first | done | (simp only [hji19]; rfl) | rfl | (simp only [List.length_drop, List.length_take]; rfl)) ?_; (with_reducible refine (money_Scale.calls kj5 ji19 a2_0 a2_1 t212 t213 _ A20.out).mono ?_); rintro e w35 ⟨rfl, hb⟩; refine ⟨_, rfl, ?_⟩; have n0_ := Aside0.mk (blk_below (g := gb207) (o := .cells #[.int .i64 a2_0, .int .i64 a2_1] 29 (0, 0)) (by (with_reducible repeat (first | refine blk_drewN ?_ _ | refine blk_drew ?_ | refine blk_alloc ?_ _)); exact BK207.out) hb); have n1_ := Aside0.mk (below_step (by repeat (first | (with_reducible first | exact HB.out | apply below_alloc | apply pw_below_drewN | apply below_drew1 | refine below_set ?_ GE207.out) | exact HB.out)) hb); clear BK207; clear HB; have BK207 := n0_; have HB := n1_; clear n0_ n1_; (try clear hb); (try clear hb2); (try clear hk); (try clear hi)))
            go_ret
            exact ⟨by first | rfl | (simp [errW_none, errW_some] <;> rfl) | (simp only [← hji17, ← hji19]; first | rfl | (simp [errW_none, errW_some] <;> rfl)) | (simp [*, errW_none, errW_some] <;> rfl), by repeat (first | (with_reducible first | exact HB.out | apply below_alloc | apply pw_below_drewN | apply below_drew1 | refine below_set ?_ GE207.out) | exact HB.out)⟩
  · replace c5 := Bool.eq_false_iff.mpr c5
    subst c5
    have H1 : (none) = some r := by rw [if_neg (show ¬ (false = true) by decide)] at H; exact H
    clear H
    have H := H1
    clear H1
    exact absurd H (by simp)

/-! ### strings_Cut: function 35 -/
-- by hand: strings.Cut
def cutAt (s : ByteArray) (c : UInt8) : ByteArray × ByteArray × Bool :=
  if 0 ≤ Lib.indexByte s.data.toList c then (s.extract 0 (Lib.indexByte s.data.toList c).toNat, s.extract ((Lib.indexByte s.data.toList c).toNat + 1) s.size, true) else (s, ⟨#[]⟩, false)
theorem indexByte_lt : ∀ (l : List UInt8) (c : UInt8), Lib.indexByte l c < l.length
  | [], c => by simp [Lib.indexByte]
  | b :: l, c => by
    have h := indexByte_lt l c
    simp only [Lib.indexByte, List.length_cons]
    split
    · omega
    · split <;> omega
theorem slite_cut (s : ByteArray) (c : UInt8) (w : World) (hs : s.size ≤ 9223372036854775806) :
    Calls Tryd.prog 48 #[.string s, .string ⟨#[c]⟩] w fun e w' => e = .returned (.tuple #[.string (cutAt s c).1, .string (cutAt s c).2.1, .bool (cutAt s c).2.2]) ∧ Drawn0 w w' := by
  have hi := indexByte_lt s.data.toList c
  have hI : ∀ W, Calls Tryd.prog 57 #[.string s, .string ⟨#[c]⟩] W fun e w' => e = .returned (.int .i64 (Lib.indexByte s.data.toList c)) ∧ w' = W := fun W => Tryd.stringslite_Index_one s c W
  have hlen : s.data.toList.length = s.size := by simp
  rw [hlen] at hi
  by_cases h0 : 0 ≤ Lib.indexByte s.data.toList c
  · have e1 : cutAt s c = (s.extract 0 (Lib.indexByte s.data.toList c).toNat, s.extract ((Lib.indexByte s.data.toList c).toNat + 1) s.size, true) := by unfold cutAt; rw [if_pos h0]
    rw [e1]
    clear e1
    obtain ⟨i, hii⟩ : ∃ i : Nat, Lib.indexByte s.data.toList c = i := ⟨(Lib.indexByte s.data.toList c).toNat, by omega⟩
    rw [hii] at hI h0 hi ⊢
    clear hii hlen
    have hi2 : i < s.size := by omega
    have HI := Lib.hid hI
    clear hI
    go_enter Tryd.func48, Tryd.ntmps48
    go_wp2_with fail
    refine (HI.out _).mono ?_
    rintro e w' ⟨rfl, rfl⟩
    go_wp2_with fail
    have hz : (ByteArray.mk #[c]).size = 1 := rfl
    have g1 : (0 : Int) ≤ (i : Int) := by omega
    have g2 : (i : Int) ≤ (s.size : Int) := by omega
    have g3 : (0 : Int) ≤ (i : Int) + 1 := by omega
    have g4 : (i : Int) + 1 ≤ (s.size : Int) := by omega
    go_region
    go_wp2
    go_ret3
    exact ⟨rfl, (Drawn0.refl _).step 1⟩
  · have e1 : cutAt s c = (s, ⟨#[]⟩, false) := by unfold cutAt; rw [if_neg h0]
    rw [e1]
    clear e1
    have hge := Lib.indexByte_ge s.data.toList c
    have hm : Lib.indexByte s.data.toList c = -1 := by omega
    rw [hm] at hI
    clear hm h0 hge hi hlen
    have HI := Lib.hid hI
    clear hI
    go_enter Tryd.func48, Tryd.ntmps48
    go_wp2_with fail
    refine (HI.out _).mono ?_
    rintro e w' ⟨rfl, rfl⟩
    go_wp2_with fail
    go_ret3
    exact ⟨rfl, Drawn0.refl _⟩
theorem cut_one (s : ByteArray) (c : UInt8) (w : World) (hs : s.size ≤ 9223372036854775806) :
    Calls Tryd.prog 35 #[.string s, .string ⟨#[c]⟩] w fun e w' => e = .returned (.tuple #[.string (cutAt s c).1, .string (cutAt s c).2.1, .bool (cutAt s c).2.2]) ∧ Drawn0 w w' := by
  have H := Lib.hid (fun W => slite_cut s c W hs)
  go_enter Tryd.func35, Tryd.ntmps35
  go_wp2_with fail
  refine (H.out _).mono ?_
  rintro e w' ⟨rfl, hd⟩
  go_wp2_with fail
  go_ret3
  exact ⟨rfl, hd⟩
/-- At a separator of one byte. -/
def strings_Cut.f (a0 a1 : ByteArray) : Option (ByteArray × ByteArray × Bool) := if a0.size ≤ 9223372036854775806 then (match a1.data.toList with | [c] => some (cutAt a0 c) | _ => none) else none
theorem strings_Cut.calls (a0 a1 : ByteArray) (r1 r2 : ByteArray) (r3 : Bool) (w : World) (h : strings_Cut.f a0 a1 = some (r1, r2, r3)) :
    Calls Tryd.prog 35 #[.string a0, .string a1] w fun e w' => e = .returned (.tuple #[.string r1, .string r2, .bool r3]) ∧ Drawn0 w w' := by
  unfold strings_Cut.f at h
  split at h
  · rename_i hs
    split at h
    · rename_i c hc
      have e : a1 = ⟨#[c]⟩ := by
        cases a1 with
        | mk d => cases d with
          | mk l => simp at hc; subst hc; rfl
      subst e
      have e2 := Option.some.inj h
      have := cut_one a0 c w hs
      rw [e2] at this
      exact this
    · cases h
  · cases h

/-! ### strconv_Atoi: function 39 -/
-- by hand: strconv.Atoi
theorem atoi_ok (s : ByteArray) (v : Int) (w : World) (hs : s.size ≤ 281474976710656) (h : Lib.atoiAll s.data.toList = .ok v) :
    Calls Tryd.prog 39 #[.string s] w fun e w' => e = .returned (.tuple #[.int .i64 v, .nilIface]) ∧ Below w.heap.size w w' := by
  refine (Tryd.strconv_Atoi_ok s (by omega) v h w).mono ?_
  rintro e w' ⟨rfl, hw⟩
  refine ⟨rfl, ?_⟩
  rcases hw with rfl | ⟨t, rfl⟩
  · exact Below.refl _ _
  · exact Lib.bytesWorld_below _ _ _
/-- At a string that spells an int. -/
def strconv_Atoi.f (a0 : ByteArray) : Option (Int × Option Int) := if a0.size ≤ 281474976710656 then (match Lib.atoiAll a0.data.toList with | .ok v => some (v, none) | _ => none) else none
theorem strconv_Atoi.calls (a0 : ByteArray) (r1 : Int) (r2 : Option Int) (w : World) (h : strconv_Atoi.f a0 = some (r1, r2)) :
    Calls Tryd.prog 39 #[.string a0] w fun e w' => e = .returned (.tuple #[.int .i64 r1, errW r2]) ∧ Below w.heap.size w w' := by
  unfold strconv_Atoi.f at h
  split at h
  · rename_i hs
    split at h
    · rename_i v hv
      cases h
      exact atoi_ok a0 _ w hs hv
    · cases h
  · cases h

end Go.Proofs.YtcbhaoaameiacaaDoor.X
