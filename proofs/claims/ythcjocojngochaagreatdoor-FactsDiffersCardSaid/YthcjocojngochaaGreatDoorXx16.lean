-- Written by a program of mine (wip/tools/xprint.py) over the kit's print.py: printed functions and hand-proved ones side by side.
import Derived.Test.YthcjocojngochaaGreatDoorWSized
import Derived.Test.YthcjocojngochaaGreatDoorXx0
import Derived.Test.YthcjocojngochaaGreatDoorXx3
import Derived.Test.YthcjocojngochaaGreatDoorXx9
import Derived.Test.YthcjocojngochaaGreatDoorXx13
import Derived.Test.YthcjocojngochaaGreatDoorXx14
namespace Go.Proofs.YthcjocojngochaaGreatDoor.X
open Go.RowKit Go.Proofs.YthcjocojngochaaGreatDoorW.PrintWords Go.Proofs.YthcjocojngochaaGreatDoorW.PrintLast Go.Proofs.YthcjocojngochaaGreatDoorW.PrintMore
attribute [local go_sem] max2_int min2_int max_two min_two max_three min_three max_four min_four   -- for this text's walks alone
set_option linter.unusedVariables false
set_option linter.unusedSimpArgs false

/-! ### cohousinglaw16_FactsAside: function 4 -/
mutual
def cohousinglaw16_FactsAside.j0 : Nat → List (S26) → Int → ByteArray → Int → Int → Int → Bool → Option (Bool)
  | 0, _, _, _, _, _, _, _ => none
  | k + 1, x0, x1, x2, x3, x4, x5, x33 => if x33 = true then (some true) else (cohousinglaw16_FactsAside.l0 k x0 x1 x2 x3 x4 x5 true ([] : List (S26)) x0 (x0.length : Int) 0)
def cohousinglaw16_FactsAside.l0 : Nat → List (S26) → Int → ByteArray → Int → Int → Int → Bool → List (S26) → List (S26) → Int → Int → Option (Bool)
  | 0, _, _, _, _, _, _, _, _, _, _, _ => none
  | k + 1, x0, x1, x2, x3, x4, x5, x13, x14, x35, x36, x37 => if x37 < x36 then (if 0 ≤ x37 then (if x37 < (x35.length : Int) then (if ((rd_T26 x35 x37).f0) = x1 then (if ((rd_T26 x35 x37).f1).toList = x2.toList then (if x14.length < 2199023255552 then (cohousinglaw16_FactsAside.l0 k x0 x1 x2 x3 x4 x5 x13 (x14 ++ [(⟨(rd_T26 x35 x37).f0, (rd_T26 x35 x37).f1, (rd_T26 x35 x37).f2, (⟨(rd_T26 x35 x37).f3.f0, (rd_T26 x35 x37).f3.f1⟩ : S24), (rd_T26 x35 x37).f4, (rd_T26 x35 x37).f5⟩ : S26)]) x35 x36 (wrap64 (x37 + 1))) else (none)) else (cohousinglaw16_FactsAside.l0 k x0 x1 x2 x3 x4 x5 x13 x14 x35 x36 (wrap64 (x37 + 1)))) else (cohousinglaw16_FactsAside.l0 k x0 x1 x2 x3 x4 x5 x13 x14 x35 x36 (wrap64 (x37 + 1)))) else (none)) else (none)) else ((facts_Value.f x0 x1 x2 x4 x5).bind fun bt200 => ((facts_Value.f x14 x1 x2 x4 x5).bind fun bt203 => (if x13 = true then (if bt200.1 = bt203.1 then (if (bt200.2.1 == bt203.2.1) = true then (if bt200.2.2 = bt203.2.2 then ((facts_Days.f x0 x1 x2 x3 x5).bind fun bt206 => ((facts_Days.f x14 x1 x2 x3 x5).bind fun bt210 => ((cohousingref04_Same.f k bt206.1 bt210.1).bind fun t214 => (if t214 = true then (if bt206.2 = bt210.2 then ((facts_Differ.f x0 x1 x2 x4 x5).bind fun bt215 => ((facts_Differ.f x14 x1 x2 x4 x5).bind fun bt219 => ((cohousingref04_Same.f k bt215.1 bt219.1).bind fun t223 => (if t223 = true then (if bt215.2 = bt219.2 then (some true) else (none)) else (none))))) else (none)) else (none))))) else (none)) else (none)) else (none)) else (none))))
end
def cohousinglaw16_FactsAside.f (k : Nat) (l0 : List (S26)) (a1 : Int) (a2 : ByteArray) (a3 : Int) (a4 : Int) (a5 : Int) : Option (Bool) := (cohousinglaw16_head.f k).bind fun t193 => (if t193 = true then (if (l0.length : Int) > 400 then (cohousinglaw16_FactsAside.j0 k l0 a1 a2 a3 a4 a5 true) else ((facts_Valid.f l0).bind fun t194 => (cohousinglaw16_FactsAside.j0 k l0 a1 a2 a3 a4 a5 (!t194)))) else (none))
theorem cohousinglaw16_FactsAside.mono_l : ∀ k, (∀ y0 y1 y2 y3 y4 y5 y6, LeO (cohousinglaw16_FactsAside.j0 k y0 y1 y2 y3 y4 y5 y6) (cohousinglaw16_FactsAside.j0 (k + 1) y0 y1 y2 y3 y4 y5 y6)) ∧ (∀ y0 y1 y2 y3 y4 y5 y6 y7 y8 y9 y10, LeO (cohousinglaw16_FactsAside.l0 k y0 y1 y2 y3 y4 y5 y6 y7 y8 y9 y10) (cohousinglaw16_FactsAside.l0 (k + 1) y0 y1 y2 y3 y4 y5 y6 y7 y8 y9 y10))
  | 0 => ⟨fun _ _ _ _ _ _ _ r h => by simp [cohousinglaw16_FactsAside.j0] at h, fun _ _ _ _ _ _ _ _ _ _ _ r h => by simp [cohousinglaw16_FactsAside.l0] at h⟩
  | k + 1 => by
    obtain ⟨ih0, ih1⟩ := cohousinglaw16_FactsAside.mono_l k
    refine ⟨?_, ?_⟩
    · intro y0 y1 y2 y3 y4 y5 y6
      unfold cohousinglaw16_FactsAside.j0
      repeat' first
      | (with_reducible exact ih0 _ _ _ _ _ _ _)
      | (with_reducible exact ih1 _ _ _ _ _ _ _ _ _ _ _)
      | (with_reducible exact cohousinglaw16_head.mono _)
      | (with_reducible exact cohousingref04_Same.mono _ _ _)
      | (with_reducible exact LeO.refl _)
      | (with_reducible exact LeO.none _)
      | (with_reducible refine LeO.ite ?_ ?_)
      | (with_reducible refine LeO.bind ?_ (fun _ => ?_))
      | exact ih0 _ _ _ _ _ _ _
      | exact ih1 _ _ _ _ _ _ _ _ _ _ _
      | exact cohousinglaw16_head.mono _
      | exact cohousingref04_Same.mono _ _ _
      | exact LeO.none _
      | refine LeO.ite ?_ ?_
      | refine LeO.bind ?_ (fun _ => ?_)
    · intro y0 y1 y2 y3 y4 y5 y6 y7 y8 y9 y10
      unfold cohousinglaw16_FactsAside.l0
      repeat' first
      | (with_reducible exact ih0 _ _ _ _ _ _ _)
      | (with_reducible exact ih1 _ _ _ _ _ _ _ _ _ _ _)
      | (with_reducible exact cohousinglaw16_head.mono _)
      | (with_reducible exact cohousingref04_Same.mono _ _ _)
      | (with_reducible exact LeO.refl _)
      | (with_reducible exact LeO.none _)
      | (with_reducible refine LeO.ite ?_ ?_)
      | (with_reducible refine LeO.bind ?_ (fun _ => ?_))
      | exact ih0 _ _ _ _ _ _ _
      | exact ih1 _ _ _ _ _ _ _ _ _ _ _
      | exact cohousinglaw16_head.mono _
      | exact cohousingref04_Same.mono _ _ _
      | exact LeO.none _
      | refine LeO.ite ?_ ?_
      | refine LeO.bind ?_ (fun _ => ?_)
theorem cohousinglaw16_FactsAside.mono : ∀ a0 a1 a2 a3 a4 a5 k, LeO (cohousinglaw16_FactsAside.f k a0 a1 a2 a3 a4 a5) (cohousinglaw16_FactsAside.f (k + 1) a0 a1 a2 a3 a4 a5) := by
  intro a0 a1 a2 a3 a4 a5 k
  obtain ⟨ih0, ih1⟩ := cohousinglaw16_FactsAside.mono_l k
  unfold cohousinglaw16_FactsAside.f
  repeat' first
      | (with_reducible exact ih0 _ _ _ _ _ _ _)
      | (with_reducible exact ih1 _ _ _ _ _ _ _ _ _ _ _)
      | (with_reducible exact cohousinglaw16_head.mono _)
      | (with_reducible exact cohousingref04_Same.mono _ _ _)
      | (with_reducible exact LeO.refl _)
      | (with_reducible exact LeO.none _)
      | (with_reducible refine LeO.ite ?_ ?_)
      | (with_reducible refine LeO.bind ?_ (fun _ => ?_))
      | exact ih0 _ _ _ _ _ _ _
      | exact ih1 _ _ _ _ _ _ _ _ _ _ _
      | exact cohousinglaw16_head.mono _
      | exact cohousingref04_Same.mono _ _ _
      | exact LeO.none _
      | refine LeO.ite ?_ ?_
      | refine LeO.bind ?_ (fun _ => ?_)
set_option maxHeartbeats 8000000 in
set_option maxRecDepth 100000 in
theorem cohousinglaw16_FactsAside.calls (k : Nat) (A0 : Option Addr) (c0 : Nat) (l0 : List (S26)) (a1 : Int) (a2 : ByteArray) (a3 : Int) (a4 : Int) (a5 : Int) (r : Bool) (w : World) (hr0 : Kd.C k26 w A0 l0.length l0) (hc0 : l0.length ≤ c0) (h : cohousinglaw16_FactsAside.f k l0 a1 a2 a3 a4 a5 = some r) :
    Calls Tryz.prog 4 #[.slice A0 l0.length c0, .int .i64 a1, .string a2, .int .i64 a3, .int .i64 a4, .int .i64 a5] w fun e w' => e = .returned (.bool r) ∧ Below w.heap.size w w' := by
  have hu26 := Tryz.underlying26
  have HR0 := Aside0.mk hr0
  have HC0 := Aside0.mk hc0
  clear hr0 hc0
  have HB := Aside0.mk (Below.refl w.heap.size w)
  have H : ((cohousinglaw16_head.f k).bind fun t193 => (if t193 = true then (if (l0.length : Int) > 400 then (cohousinglaw16_FactsAside.j0 k l0 a1 a2 a3 a4 a5 true) else ((facts_Valid.f l0).bind fun t194 => (cohousinglaw16_FactsAside.j0 k l0 a1 a2 a3 a4 a5 (!t194)))) else (none))) = some r := h
  clear h
  replace H := Option.bind_eq_some_iff.mp H
  obtain ⟨t193, A70, H⟩ := H
  replace H : (if t193 = true then (if (l0.length : Int) > 400 then (cohousinglaw16_FactsAside.j0 k l0 a1 a2 a3 a4 a5 true) else ((facts_Valid.f l0).bind fun t194 => (cohousinglaw16_FactsAside.j0 k l0 a1 a2 a3 a4 a5 (!t194)))) else (none)) = some r := H
  have A7 := Aside0.mk A70
  clear A70
  by_cases c8 : t193 = true
  · subst c8
    have H1 : (if (l0.length : Int) > 400 then (cohousinglaw16_FactsAside.j0 k l0 a1 a2 a3 a4 a5 true) else ((facts_Valid.f l0).bind fun t194 => (cohousinglaw16_FactsAside.j0 k l0 a1 a2 a3 a4 a5 (!t194)))) = some r := by rw [if_pos rfl] at H; exact H
    clear H
    have H := H1
    clear H1
    have HC9 := Aside0.mk H
    clear H
    go_enter Tryz.func4, Tryz.ntmps4
    go_upto_region 2 with (first | ((with_reducible refine gate_callee (f := 10) rfl ?_); refine goesL_ (some 25) rfl rfl Tryz.func10 (by kernel_rfl) rfl #[] rfl (by (try simp only [List.map_toArray, List.map_cons, List.map_nil]); first | done | rfl | (simp only [List.length_drop, List.length_take]; rfl)) ?_; (with_reducible refine (cohousinglaw16_head.calls k  true _ A7.out).mono ?_); rintro e w10 ⟨rfl, hb⟩; refine ⟨_, rfl, ?_⟩; have n0_ := Aside0.mk (below_step (by repeat (first | (with_reducible first | exact HB.out | apply below_alloc | apply pw_below_drewN | apply below_drew1) | exact HB.out)) hb); clear HB; have HB := n0_; clear n0_; (try clear hb); (try clear hb2); (try clear hk); (try clear hi)))
    (try simp only [Act.put, List.setIfInBounds_toArray, List.set_cons_zero, List.set_cons_succ])
    go_cut [33] (fun v33 wc => ∃ (kq : Nat) (x33_8 : Bool), v33 = .bool x33_8 ∧ Aside0 (cohousinglaw16_FactsAside.j0 kq l0 a1 a2 a3 a4 a5 x33_8 = some r) ∧ Aside0 (kq ≤ k) ∧ Aside0 (Below w.heap.size w wc))
    case first =>
      have H := HC9.out
      clear HC9
      by_cases c11 : (l0.length : Int) > 400
      · rw [if_pos c11] at H
        have c11b0 : decide (400 < (l0.length : Int)) = true := decide_eq_true c11
        have c11b1 : decide (400 < l0.length) = true := decide_eq_true (by omega)
        clear c11
        (first | rw [c11b0] | (simp only [i64_w, i32_w]; rw [c11b0]) | skip)
        have H' := Aside0.mk H
        clear H
        go_wp2
        go_meet
        case rel => exact ⟨_, (true), (by first | rfl | (simp; done) | (simp [*]; done)), H', ⟨by first | omega | exact Nat.le_refl _⟩, ⟨by repeat (first | (with_reducible first | exact HB.out | apply below_alloc | apply pw_below_drewN | apply below_drew1) | exact HB.out)⟩⟩
      · rw [if_neg c11] at H
        have c11b0 : decide (400 < (l0.length : Int)) = false := decide_eq_false c11
        have c11b1 : decide (400 < l0.length) = false := decide_eq_false (by omega)
        clear c11
        (first | rw [c11b0] | (simp only [i64_w, i32_w]; rw [c11b0]) | skip)
        replace H := Option.bind_eq_some_iff.mp H
        obtain ⟨t194, A120, H⟩ := H
        replace H : (cohousinglaw16_FactsAside.j0 k l0 a1 a2 a3 a4 a5 (!t194)) = some r := H
        have A12 := Aside0.mk A120
        clear A120
        have H' := Aside0.mk H
        clear H
        go_wp2_with (first | (go_at_call 11; (with_reducible refine (facts_Valid.calls _ _ l0 t194 _ ?side1 ?side2 A12.out).mono ?_); (case side1 => repeat (first | exact (Kd.C_below HR0.out HB.out) | (with_reducible refine Kd.C_alloc ?_ _) | (with_reducible refine Kd.C_drewN ?_ _) | (with_reducible refine Kd.C_drew ?_))); (case side2 => exact HC0.out); rintro e w13 ⟨rfl, hb⟩; have n0_ := Aside0.mk (below_step (by repeat (first | (with_reducible first | exact HB.out | apply below_alloc | apply pw_below_drewN | apply below_drew1) | exact HB.out)) hb); clear HB; have HB := n0_; clear n0_; (try clear hb); (try clear hb2); (try clear hk); (try clear hi)))
        go_meet
        case rel => exact ⟨_, (!t194), (by first | rfl | (simp; done) | (simp [*]; done)), H', ⟨by first | omega | exact Nat.le_refl _⟩, ⟨by repeat (first | (with_reducible first | exact HB.out | apply below_alloc | apply pw_below_drewN | apply below_drew1) | exact HB.out)⟩⟩
    case rest =>
      clear HC9
      try clear c1
      try clear p2
      try clear c4
      try clear c8
      try clear c10
      try clear c11
      try clear c11b0
      try clear c11b1
      obtain ⟨kq, x33_8, rfl, HA, HJ8, HB⟩ := hcut
      cases kq with
      | zero => exact absurd HA.out (by simp [cohousinglaw16_FactsAside.j0])
      | succ kj8 =>
        have H := HA.out
        clear HA
        simp only [cohousinglaw16_FactsAside.j0] at H
        by_cases c14 : x33_8 = true
        · subst c14
          have H1 : (some true) = some r := by rw [if_pos rfl] at H; exact H
          clear H
          have H := H1
          clear H1
          obtain rfl := Option.some.inj H
          go_wp2
          go_ret
          exact ⟨by first | rfl | (simp [errW_none, errW_some] <;> rfl) | (simp [*, errW_none, errW_some] <;> rfl), by repeat (first | (with_reducible first | exact HB.out | apply below_alloc | apply pw_below_drewN | apply below_drew1) | exact HB.out)⟩
        · replace c14 := Bool.eq_false_iff.mpr c14
          subst c14
          have H1 : (cohousinglaw16_FactsAside.l0 kj8 l0 a1 a2 a3 a4 a5 true ([] : List (S26)) l0 (l0.length : Int) 0) = some r := by rw [if_neg (show ¬ (false = true) by decide)] at H; exact H
          clear H
          have H := H1
          clear H1
          have H' := Aside0.mk H
          clear H
          go_wp2
          go_loopg [14, 37] kj8 (fun kq v14 v37 w' => ∃ (x14_2 : List (S26)) (x37_2 : Int), v37 = .int .i64 x37_2 ∧ Aside0 (cohousinglaw16_FactsAside.l0 kq l0 a1 a2 a3 a4 a5 true x14_2 l0 (l0.length : Int) x37_2 = some r) ∧ Aside0 (kq ≤ kj8) ∧ Aside0 (Kd.R k26 26 w' w.heap.size (fun _ => True) v14 x14_2) ∧ Aside0 (Below w.heap.size w w'))
          case atStart => exact ⟨(([] : List (S26))), (0), (by first | rfl | (simp; done) | (simp [*]; done)), H', ⟨Nat.le_refl _⟩, ⟨by first | exact Kd.R_nil _ _ _ _ _ | exact Kd.N_nil _ _ _ _ _ | exact Kd.V_nil _ _ _ _ _ | exact Kd.Q_nil _ _ _ _ _ | exact Kd.S_nil _ _ _ _ _⟩, ⟨by repeat (first | (with_reducible first | exact HB.out | apply below_alloc | apply pw_below_drewN | apply below_drew1) | exact HB.out)⟩⟩
          case round =>
            clear H'
            try clear c1
            try clear p2
            try clear c4
            try clear c8
            try clear c10
            try clear c11
            try clear c11b0
            try clear c11b1
            try clear c14
            try clear p2
            obtain ⟨x14_2, x37_2, rfl, HA, HK2, HO_14, HB⟩ := hrel
            cases gk with
            | zero => exact absurd HA.out (by simp [cohousinglaw16_FactsAside.l0])
            | succ k2 =>
              have H := HA.out
              clear HA
              simp only [cohousinglaw16_FactsAside.l0] at H
              by_cases c15 : x37_2 < (l0.length : Int)
              · rw [if_pos c15] at H
                have c15b0 : decide (x37_2 < (l0.length : Int)) = true := decide_eq_true c15
                clear c15
                by_cases c16 : 0 ≤ x37_2
                · rw [if_pos c16] at H
                  have c16b0 : decide (0 ≤ x37_2) = true := decide_eq_true c16
                  clear c16
                  by_cases c17 : x37_2 < (l0.length : Int)
                  · rw [if_pos c17] at H
                    have c17b0 : decide (x37_2 < (l0.length : Int)) = true := decide_eq_true c17
                    clear c17
                    by_cases c18 : ((rd_T26 l0 x37_2).f0) = a1
                    · rw [if_pos c18] at H
                      have c18b0 : (((rd_T26 l0 x37_2).f0) == a1) = true := beq_iff_eq.mpr c18
                      have c18b1 : (((rd_T26 l0 x37_2).f0) != a1) = false := bne_eq_false_iff_eq.mpr c18
                      clear c18
                      by_cases c19 : ((rd_T26 l0 x37_2).f1).toList = a2.toList
                      · rw [if_pos c19] at H
                        have c19b0 : (((rd_T26 l0 x37_2).f1).toList == a2.toList) = true := beq_iff_eq.mpr c19
                        have c19b1 : (((rd_T26 l0 x37_2).f1).toList != a2.toList) = false := bne_eq_false_iff_eq.mpr c19
                        clear c19
                        by_cases c20 : x14_2.length < 2199023255552
                        · rw [if_pos c20] at H
                          have LMc20 := Aside0.mk c20
                          clear c20
                          obtain ⟨y197, hy197⟩ : ∃ y_ : List (S26), y_ = (x14_2 ++ [(⟨(rd_T26 l0 x37_2).f0, (rd_T26 l0 x37_2).f1, (rd_T26 l0 x37_2).f2, (⟨(rd_T26 l0 x37_2).f3.f0, (rd_T26 l0 x37_2).f3.f1⟩ : S24), (rd_T26 l0 x37_2).f4, (rd_T26 l0 x37_2).f5⟩ : S26)]) := ⟨_, rfl⟩
                          replace H : (cohousinglaw16_FactsAside.l0 k2 l0 a1 a2 a3 a4 a5 true y197 l0 (l0.length : Int) (wrap64 (x37_2 + 1))) = some r := by first | (rw [hy197]; with_reducible exact H) | (have H2_ := (Option.bind_some _ _).symm.trans H; rw [hy197]; with_reducible exact H2_) | (have H2_ := (Option.bind_some _ _).symm.trans H; with_reducible exact H2_) | with_reducible exact H | (rw [hy197]; exact H) | exact H
                          have Ny197 := Aside0.mk hy197
                          clear hy197
                          have H' := Aside0.mk H
                          clear H
                          have p195 : 0 ≤ (x37_2 : Int) := of_decide_eq_true (by first | (with_reducible assumption) | assumption)
                          have q195 : x37_2 < (l0.length : Int) := of_decide_eq_true (by first | (with_reducible assumption) | assumption)
                          obtain ⟨ad195, e195, hx195_0, hx195_1, hx195_2, hx195_3, hx195_4, hx195_5, hx195_6⟩ := at_T26 HR0.out x37_2 p195 q195
                          cases e195
                          replace hx195_0 := (HB.out.cell (World.block_lt_of_cell? w _ hx195_0)).trans hx195_0
                          replace hx195_1 := (HB.out.cell (World.block_lt_of_cell? w _ hx195_1)).trans hx195_1
                          replace hx195_2 := (HB.out.cell (World.block_lt_of_cell? w _ hx195_2)).trans hx195_2
                          replace hx195_3 := (HB.out.cell (World.block_lt_of_cell? w _ hx195_3)).trans hx195_3
                          replace hx195_4 := (HB.out.cell (World.block_lt_of_cell? w _ hx195_4)).trans hx195_4
                          replace hx195_5 := (HB.out.cell (World.block_lt_of_cell? w _ hx195_5)).trans hx195_5
                          replace hx195_6 := (HB.out.cell (World.block_lt_of_cell? w _ hx195_6)).trans hx195_6
                          replace p195 := eq_true p195
                          replace q195 := eq_true q195
                          go_wp2_with (first | ((with_reducible refine gate_dst (N := 16) rfl ?_); refine box_event ?hg (N := 16) ?hd (cs := #[.int .i64 0, .string (⟨#[]⟩ : ByteArray), .int .i64 0, .int .i64 0, .int .i64 0, .int .i64 0, .bool false]) (t := 26) ?hr ?_; (case hd => rfl); (case hg => rfl); (case hr => first | (go_simp; done) | (go_simp; rfl)); intro gb196 hg w21 hbox hb; have n0_ := Aside0.mk (Kd.R_below (Kd.R_elderB (by (with_reducible repeat (first | apply Kd.R_alloc | apply Kd.R_drewN | apply Kd.R_drew)); exact HO_14.out) gb196 (Nat.le_of_eq hg.symm)) hb); have n1_ := Aside0.mk (below_step (by repeat (first | (with_reducible first | exact HB.out | apply below_alloc | apply pw_below_drewN | apply below_drew1) | exact HB.out)) hb); have n2_ := Aside0.mk (hbox); have n3_ := Aside0.mk ((by rw [hg]; exact (below_size (by repeat (first | (with_reducible first | exact HB.out | apply below_alloc | apply pw_below_drewN | apply below_drew1) | exact HB.out))) : w.heap.size ≤ gb196)); have n4_ := Aside0.mk ((by rw [hg]; exact (below_size (by repeat (first | (with_reducible first | exact HB.out | apply below_alloc | apply pw_below_drewN | apply below_drew1) | exact HB.out))) : w.heap.size ≤ gb196)); clear HO_14; clear HB; have HO_14 := n0_; have HB := n1_; have BK196 := n2_; have GW196 := n3_; have GE196 := n4_; clear n0_ n1_ n2_ n3_ n4_; clear hb hbox hg; have hcz22_0 : w21.cell? ⟨gb196, 0, none⟩ = some (.int .i64 0) := (blk_cell BK196.out 0).trans rfl; have hcz22_1 : w21.cell? ⟨gb196, 1, none⟩ = some (.string (⟨#[]⟩ : ByteArray)) := (blk_cell BK196.out 1).trans rfl; have hcz22_2 : w21.cell? ⟨gb196, 2, none⟩ = some (.int .i64 0) := (blk_cell BK196.out 2).trans rfl; have hcz22_3 : w21.cell? ⟨gb196, 3, none⟩ = some (.int .i64 0) := (blk_cell BK196.out 3).trans rfl; have hcz22_4 : w21.cell? ⟨gb196, 4, none⟩ = some (.int .i64 0) := (blk_cell BK196.out 4).trans rfl; have hcz22_5 : w21.cell? ⟨gb196, 5, none⟩ = some (.int .i64 0) := (blk_cell BK196.out 5).trans rfl; have hcz22_6 : w21.cell? ⟨gb196, 6, none⟩ = some (.bool false) := (blk_cell BK196.out 6).trans rfl; have hfz22_0 := blk_frozen BK196.out 0; have hfz22_1 := blk_frozen BK196.out 1; have hfz22_2 := blk_frozen BK196.out 2; have hfz22_3 := blk_frozen BK196.out 3; have hfz22_4 := blk_frozen BK196.out 4; have hfz22_5 := blk_frozen BK196.out 5; have hfz22_6 := blk_frozen BK196.out 6) | ((with_reducible refine gate_builtin (b := .append) (xs := #[.tmp 51, .tmp 53]) rfl ?_); at_builtin; refine Kd.R_append k26 (w0 := w) w.heap.size rfl (.tmp 51) (.tmp 53) 22 26 (.agg #[(.int .i64 0), (.string ⟨#[]⟩), (.int .i64 0), (.int .i64 0), (.int .i64 0), (.int .i64 0), (.bool false)]) 64 rfl Tryz.underlying22 info26 rfl (by decide) (by omega) u14 x14_2 (⟨(rd_T26 l0 x37_2).f0, (rd_T26 l0 x37_2).f1, (rd_T26 l0 x37_2).f2, (⟨(rd_T26 l0 x37_2).f3.f0, (rd_T26 l0 x37_2).f3.f1⟩ : S24), (rd_T26 l0 x37_2).f4, (rd_T26 l0 x37_2).f5⟩ : S26) [.int .i64 ((rd_T26 l0 x37_2).f0), .string ((rd_T26 l0 x37_2).f1), .int .i64 ((rd_T26 l0 x37_2).f2), .int .i64 ((rd_T26 l0 x37_2).f3.f0), .int .i64 ((rd_T26 l0 x37_2).f3.f1), .int .i64 ((rd_T26 l0 x37_2).f4), .bool ((rd_T26 l0 x37_2).f5)] (fun k_ => k_ ≠ gb196) (fun _ => False) rfl (by first | (go_simp; done) | (go_simp; rfl)) ?aP (fun _ hk => hk.elim) ?aF ?aO ?aB ?aS ?aL ?_; (case aP => exact k26_mkM _ _ _ (⟨(rd_T26 l0 x37_2).f0, (rd_T26 l0 x37_2).f1, (rd_T26 l0 x37_2).f2, (⟨(rd_T26 l0 x37_2).f3.f0, (rd_T26 l0 x37_2).f3.f1⟩ : S24), (rd_T26 l0 x37_2).f4, (rd_T26 l0 x37_2).f5⟩ : S26)); (case aB => exact (by repeat (first | (with_reducible first | exact HB.out | apply below_alloc | apply pw_below_drewN | apply below_drew1 | refine below_set ?_ GE196.out) | exact HB.out))); (case aF => exact (fun k_ hk => Kd.freshB (g := gb196) (o := .cells #[.int .i64 ((rd_T26 l0 x37_2).f0), .string ((rd_T26 l0 x37_2).f1), .int .i64 ((rd_T26 l0 x37_2).f2), .int .i64 ((rd_T26 l0 x37_2).f3.f0), .int .i64 ((rd_T26 l0 x37_2).f3.f1), .int .i64 ((rd_T26 l0 x37_2).f4), .bool ((rd_T26 l0 x37_2).f5)] 26 (0, 0)) (by (with_reducible repeat (first | refine blk_drewN ?_ _ | refine blk_drew ?_ | refine blk_alloc ?_ _)); refine blk_put (cs := #[.int .i64 ((rd_T26 l0 x37_2).f0), .string ((rd_T26 l0 x37_2).f1), .int .i64 ((rd_T26 l0 x37_2).f2), .int .i64 ((rd_T26 l0 x37_2).f3.f0), .int .i64 ((rd_T26 l0 x37_2).f3.f1), .int .i64 ((rd_T26 l0 x37_2).f4), .bool false]) ?_ 6 _ rfl; (with_reducible repeat (first | refine blk_drewN ?_ _ | refine blk_drew ?_ | refine blk_alloc ?_ _)); refine blk_put (cs := #[.int .i64 ((rd_T26 l0 x37_2).f0), .string ((rd_T26 l0 x37_2).f1), .int .i64 ((rd_T26 l0 x37_2).f2), .int .i64 ((rd_T26 l0 x37_2).f3.f0), .int .i64 ((rd_T26 l0 x37_2).f3.f1), .int .i64 0, .bool false]) ?_ 5 _ rfl; (with_reducible repeat (first | refine blk_drewN ?_ _ | refine blk_drew ?_ | refine blk_alloc ?_ _)); refine blk_put (cs := #[.int .i64 ((rd_T26 l0 x37_2).f0), .string ((rd_T26 l0 x37_2).f1), .int .i64 ((rd_T26 l0 x37_2).f2), .int .i64 ((rd_T26 l0 x37_2).f3.f0), .int .i64 0, .int .i64 0, .bool false]) ?_ 4 _ rfl; (with_reducible repeat (first | refine blk_drewN ?_ _ | refine blk_drew ?_ | refine blk_alloc ?_ _)); refine blk_put (cs := #[.int .i64 ((rd_T26 l0 x37_2).f0), .string ((rd_T26 l0 x37_2).f1), .int .i64 ((rd_T26 l0 x37_2).f2), .int .i64 0, .int .i64 0, .int .i64 0, .bool false]) ?_ 3 _ rfl; (with_reducible repeat (first | refine blk_drewN ?_ _ | refine blk_drew ?_ | refine blk_alloc ?_ _)); refine blk_put (cs := #[.int .i64 ((rd_T26 l0 x37_2).f0), .string ((rd_T26 l0 x37_2).f1), .int .i64 0, .int .i64 0, .int .i64 0, .int .i64 0, .bool false]) ?_ 2 _ rfl; (with_reducible repeat (first | refine blk_drewN ?_ _ | refine blk_drew ?_ | refine blk_alloc ?_ _)); refine blk_put (cs := #[.int .i64 ((rd_T26 l0 x37_2).f0), .string (⟨#[]⟩ : ByteArray), .int .i64 0, .int .i64 0, .int .i64 0, .int .i64 0, .bool false]) ?_ 1 _ rfl; (with_reducible repeat (first | refine blk_drewN ?_ _ | refine blk_drew ?_ | refine blk_alloc ?_ _)); refine blk_put (cs := #[.int .i64 0, .string (⟨#[]⟩ : ByteArray), .int .i64 0, .int .i64 0, .int .i64 0, .int .i64 0, .bool false]) ?_ 0 _ rfl; (with_reducible repeat (first | refine blk_drewN ?_ _ | refine blk_drew ?_ | refine blk_alloc ?_ _)); exact BK196.out) k_ hk)); (case aO => exact (by (with_reducible repeat (first | apply Kd.R_alloc | apply Kd.R_drewN | apply Kd.R_drew)); exact Kd.R_mono (Kd.R_far (p := ⟨gb196, 6, none⟩) (Kd.R_far (p := ⟨gb196, 5, none⟩) (Kd.R_far (p := ⟨gb196, 4, none⟩) (Kd.R_far (p := ⟨gb196, 3, none⟩) (Kd.R_far (p := ⟨gb196, 2, none⟩) (Kd.R_far (p := ⟨gb196, 1, none⟩) (Kd.R_far (p := ⟨gb196, 0, none⟩) (Kd.R_mono HO_14.out (fun k_ hk => (⟨hk, hk.2⟩ : _ ∧ k_ ≠ gb196))) (fun _ hk => hk.2) (.int .i64 ((rd_T26 l0 x37_2).f0))) (fun _ hk => hk.2) (.string ((rd_T26 l0 x37_2).f1))) (fun _ hk => hk.2) (.int .i64 ((rd_T26 l0 x37_2).f2))) (fun _ hk => hk.2) (.int .i64 ((rd_T26 l0 x37_2).f3.f0))) (fun _ hk => hk.2) (.int .i64 ((rd_T26 l0 x37_2).f3.f1))) (fun _ hk => hk.2) (.int .i64 ((rd_T26 l0 x37_2).f4))) (fun _ hk => hk.2) (.bool ((rd_T26 l0 x37_2).f5))) (fun _ hk => hk.1.2))); (case aS => exact (below_size (by repeat (first | (with_reducible first | exact HB.out | apply below_alloc | apply pw_below_drewN | apply below_drew1 | refine below_set ?_ GE196.out) | exact HB.out)))); (case aL => have := LMc20.out; omega); intro v198 w23 ho hb hg hat; rw [← Ny197.out] at ho; have n0_ := Aside0.mk (blk_grown (g := gb196) (o := .cells #[.int .i64 ((rd_T26 l0 x37_2).f0), .string ((rd_T26 l0 x37_2).f1), .int .i64 ((rd_T26 l0 x37_2).f2), .int .i64 ((rd_T26 l0 x37_2).f3.f0), .int .i64 ((rd_T26 l0 x37_2).f3.f1), .int .i64 ((rd_T26 l0 x37_2).f4), .bool ((rd_T26 l0 x37_2).f5)] 26 (0, 0)) (by (with_reducible repeat (first | refine blk_drewN ?_ _ | refine blk_drew ?_ | refine blk_alloc ?_ _)); refine blk_put (cs := #[.int .i64 ((rd_T26 l0 x37_2).f0), .string ((rd_T26 l0 x37_2).f1), .int .i64 ((rd_T26 l0 x37_2).f2), .int .i64 ((rd_T26 l0 x37_2).f3.f0), .int .i64 ((rd_T26 l0 x37_2).f3.f1), .int .i64 ((rd_T26 l0 x37_2).f4), .bool false]) ?_ 6 _ rfl; (with_reducible repeat (first | refine blk_drewN ?_ _ | refine blk_drew ?_ | refine blk_alloc ?_ _)); refine blk_put (cs := #[.int .i64 ((rd_T26 l0 x37_2).f0), .string ((rd_T26 l0 x37_2).f1), .int .i64 ((rd_T26 l0 x37_2).f2), .int .i64 ((rd_T26 l0 x37_2).f3.f0), .int .i64 ((rd_T26 l0 x37_2).f3.f1), .int .i64 0, .bool false]) ?_ 5 _ rfl; (with_reducible repeat (first | refine blk_drewN ?_ _ | refine blk_drew ?_ | refine blk_alloc ?_ _)); refine blk_put (cs := #[.int .i64 ((rd_T26 l0 x37_2).f0), .string ((rd_T26 l0 x37_2).f1), .int .i64 ((rd_T26 l0 x37_2).f2), .int .i64 ((rd_T26 l0 x37_2).f3.f0), .int .i64 0, .int .i64 0, .bool false]) ?_ 4 _ rfl; (with_reducible repeat (first | refine blk_drewN ?_ _ | refine blk_drew ?_ | refine blk_alloc ?_ _)); refine blk_put (cs := #[.int .i64 ((rd_T26 l0 x37_2).f0), .string ((rd_T26 l0 x37_2).f1), .int .i64 ((rd_T26 l0 x37_2).f2), .int .i64 0, .int .i64 0, .int .i64 0, .bool false]) ?_ 3 _ rfl; (with_reducible repeat (first | refine blk_drewN ?_ _ | refine blk_drew ?_ | refine blk_alloc ?_ _)); refine blk_put (cs := #[.int .i64 ((rd_T26 l0 x37_2).f0), .string ((rd_T26 l0 x37_2).f1), .int .i64 0, .int .i64 0, .int .i64 0, .int .i64 0, .bool false]) ?_ 2 _ rfl; (with_reducible repeat (first | refine blk_drewN ?_ _ | refine blk_drew ?_ | refine blk_alloc ?_ _)); refine blk_put (cs := #[.int .i64 ((rd_T26 l0 x37_2).f0), .string (⟨#[]⟩ : ByteArray), .int .i64 0, .int .i64 0, .int .i64 0, .int .i64 0, .bool false]) ?_ 1 _ rfl; (with_reducible repeat (first | refine blk_drewN ?_ _ | refine blk_drew ?_ | refine blk_alloc ?_ _)); refine blk_put (cs := #[.int .i64 0, .string (⟨#[]⟩ : ByteArray), .int .i64 0, .int .i64 0, .int .i64 0, .int .i64 0, .bool false]) ?_ 0 _ rfl; (with_reducible repeat (first | refine blk_drewN ?_ _ | refine blk_drew ?_ | refine blk_alloc ?_ _)); exact BK196.out) hg (Kd.R_away HO_14.out (fun _ hk => hk.2))); have n1_ := Aside0.mk (hb); have n2_ := Aside0.mk (ho); clear BK196; clear HB; clear HO_14; have BK196 := n0_; have HB := n1_; have HO199 := n2_; clear n0_ n1_ n2_; clear ho hb hg hat))
                          go_roundg k2
                          case measure => have := HJ8.out; have := HK2.out; omega
                          case rel => exact ⟨(y197), (wrap64 (x37_2 + 1)), (by first | rfl | (simp; done) | (simp [*]; done)), H', ⟨by have := HJ8.out; have := HK2.out; omega⟩, ⟨by (with_reducible repeat (first | apply Kd.R_alloc | apply Kd.R_drewN | apply Kd.R_drew)); exact Kd.R_mono HO199.out (fun _ hk => trivial)⟩, ⟨by repeat (first | (with_reducible first | exact HB.out | apply below_alloc | apply pw_below_drewN | apply below_drew1 | refine below_set ?_ GE196.out) | exact HB.out)⟩⟩
                        · rw [if_neg c20] at H
                          exact absurd H (by simp)
                      · rw [if_neg c19] at H
                        have c19b0 : (((rd_T26 l0 x37_2).f1).toList == a2.toList) = false := beq_eq_false_iff_ne.mpr c19
                        have c19b1 : (((rd_T26 l0 x37_2).f1).toList != a2.toList) = true := bne_iff_ne.mpr c19
                        have H' := Aside0.mk H
                        clear H
                        have p195 : 0 ≤ (x37_2 : Int) := of_decide_eq_true (by first | (with_reducible assumption) | assumption)
                        have q195 : x37_2 < (l0.length : Int) := of_decide_eq_true (by first | (with_reducible assumption) | assumption)
                        obtain ⟨ad195, e195, hx195_0, hx195_1, hx195_2, hx195_3, hx195_4, hx195_5, hx195_6⟩ := at_T26 HR0.out x37_2 p195 q195
                        cases e195
                        replace hx195_0 := (HB.out.cell (World.block_lt_of_cell? w _ hx195_0)).trans hx195_0
                        replace hx195_1 := (HB.out.cell (World.block_lt_of_cell? w _ hx195_1)).trans hx195_1
                        replace hx195_2 := (HB.out.cell (World.block_lt_of_cell? w _ hx195_2)).trans hx195_2
                        replace hx195_3 := (HB.out.cell (World.block_lt_of_cell? w _ hx195_3)).trans hx195_3
                        replace hx195_4 := (HB.out.cell (World.block_lt_of_cell? w _ hx195_4)).trans hx195_4
                        replace hx195_5 := (HB.out.cell (World.block_lt_of_cell? w _ hx195_5)).trans hx195_5
                        replace hx195_6 := (HB.out.cell (World.block_lt_of_cell? w _ hx195_6)).trans hx195_6
                        replace p195 := eq_true p195
                        replace q195 := eq_true q195
                        go_wp2_with (first | ((with_reducible refine gate_dst (N := 16) rfl ?_); refine box_event ?hg (N := 16) ?hd (cs := #[.int .i64 0, .string (⟨#[]⟩ : ByteArray), .int .i64 0, .int .i64 0, .int .i64 0, .int .i64 0, .bool false]) (t := 26) ?hr ?_; (case hd => rfl); (case hg => rfl); (case hr => first | (go_simp; done) | (go_simp; rfl)); intro gb196 hg w24 hbox hb; have n0_ := Aside0.mk (Kd.R_below (Kd.R_elderB (by (with_reducible repeat (first | apply Kd.R_alloc | apply Kd.R_drewN | apply Kd.R_drew)); exact HO_14.out) gb196 (Nat.le_of_eq hg.symm)) hb); have n1_ := Aside0.mk (below_step (by repeat (first | (with_reducible first | exact HB.out | apply below_alloc | apply pw_below_drewN | apply below_drew1) | exact HB.out)) hb); have n2_ := Aside0.mk (hbox); have n3_ := Aside0.mk ((by rw [hg]; exact (below_size (by repeat (first | (with_reducible first | exact HB.out | apply below_alloc | apply pw_below_drewN | apply below_drew1) | exact HB.out))) : w.heap.size ≤ gb196)); have n4_ := Aside0.mk ((by rw [hg]; exact (below_size (by repeat (first | (with_reducible first | exact HB.out | apply below_alloc | apply pw_below_drewN | apply below_drew1) | exact HB.out))) : w.heap.size ≤ gb196)); clear HO_14; clear HB; have HO_14 := n0_; have HB := n1_; have BK196 := n2_; have GW196 := n3_; have GE196 := n4_; clear n0_ n1_ n2_ n3_ n4_; clear hb hbox hg; have hcz25_0 : w24.cell? ⟨gb196, 0, none⟩ = some (.int .i64 0) := (blk_cell BK196.out 0).trans rfl; have hcz25_1 : w24.cell? ⟨gb196, 1, none⟩ = some (.string (⟨#[]⟩ : ByteArray)) := (blk_cell BK196.out 1).trans rfl; have hcz25_2 : w24.cell? ⟨gb196, 2, none⟩ = some (.int .i64 0) := (blk_cell BK196.out 2).trans rfl; have hcz25_3 : w24.cell? ⟨gb196, 3, none⟩ = some (.int .i64 0) := (blk_cell BK196.out 3).trans rfl; have hcz25_4 : w24.cell? ⟨gb196, 4, none⟩ = some (.int .i64 0) := (blk_cell BK196.out 4).trans rfl; have hcz25_5 : w24.cell? ⟨gb196, 5, none⟩ = some (.int .i64 0) := (blk_cell BK196.out 5).trans rfl; have hcz25_6 : w24.cell? ⟨gb196, 6, none⟩ = some (.bool false) := (blk_cell BK196.out 6).trans rfl; have hfz25_0 := blk_frozen BK196.out 0; have hfz25_1 := blk_frozen BK196.out 1; have hfz25_2 := blk_frozen BK196.out 2; have hfz25_3 := blk_frozen BK196.out 3; have hfz25_4 := blk_frozen BK196.out 4; have hfz25_5 := blk_frozen BK196.out 5; have hfz25_6 := blk_frozen BK196.out 6))
                        go_roundg k2
                        case measure => have := HJ8.out; have := HK2.out; omega
                        case rel => exact ⟨(x14_2), (wrap64 (x37_2 + 1)), (by first | rfl | (simp; done) | (simp [*]; done)), H', ⟨by have := HJ8.out; have := HK2.out; omega⟩, ⟨by (with_reducible repeat (first | apply Kd.R_alloc | apply Kd.R_drewN | apply Kd.R_drew)); exact Kd.R_mono (Kd.R_far (p := ⟨gb196, 6, none⟩) (Kd.R_far (p := ⟨gb196, 5, none⟩) (Kd.R_far (p := ⟨gb196, 4, none⟩) (Kd.R_far (p := ⟨gb196, 3, none⟩) (Kd.R_far (p := ⟨gb196, 2, none⟩) (Kd.R_far (p := ⟨gb196, 1, none⟩) (Kd.R_far (p := ⟨gb196, 0, none⟩) (Kd.R_mono HO_14.out (fun k_ hk => (⟨hk, hk.2⟩ : _ ∧ k_ ≠ gb196))) (fun _ hk => hk.2) (.int .i64 ((rd_T26 l0 x37_2).f0))) (fun _ hk => hk.2) (.string ((rd_T26 l0 x37_2).f1))) (fun _ hk => hk.2) (.int .i64 ((rd_T26 l0 x37_2).f2))) (fun _ hk => hk.2) (.int .i64 ((rd_T26 l0 x37_2).f3.f0))) (fun _ hk => hk.2) (.int .i64 ((rd_T26 l0 x37_2).f3.f1))) (fun _ hk => hk.2) (.int .i64 ((rd_T26 l0 x37_2).f4))) (fun _ hk => hk.2) (.bool ((rd_T26 l0 x37_2).f5))) (fun _ hk => trivial)⟩, ⟨by repeat (first | (with_reducible first | exact HB.out | apply below_alloc | apply pw_below_drewN | apply below_drew1 | refine below_set ?_ GE196.out) | exact HB.out)⟩⟩
                    · rw [if_neg c18] at H
                      have c18b0 : (((rd_T26 l0 x37_2).f0) == a1) = false := beq_eq_false_iff_ne.mpr c18
                      have c18b1 : (((rd_T26 l0 x37_2).f0) != a1) = true := bne_iff_ne.mpr c18
                      have H' := Aside0.mk H
                      clear H
                      have p195 : 0 ≤ (x37_2 : Int) := of_decide_eq_true (by first | (with_reducible assumption) | assumption)
                      have q195 : x37_2 < (l0.length : Int) := of_decide_eq_true (by first | (with_reducible assumption) | assumption)
                      obtain ⟨ad195, e195, hx195_0, hx195_1, hx195_2, hx195_3, hx195_4, hx195_5, hx195_6⟩ := at_T26 HR0.out x37_2 p195 q195
                      cases e195
                      replace hx195_0 := (HB.out.cell (World.block_lt_of_cell? w _ hx195_0)).trans hx195_0
                      replace hx195_1 := (HB.out.cell (World.block_lt_of_cell? w _ hx195_1)).trans hx195_1
                      replace hx195_2 := (HB.out.cell (World.block_lt_of_cell? w _ hx195_2)).trans hx195_2
                      replace hx195_3 := (HB.out.cell (World.block_lt_of_cell? w _ hx195_3)).trans hx195_3
                      replace hx195_4 := (HB.out.cell (World.block_lt_of_cell? w _ hx195_4)).trans hx195_4
                      replace hx195_5 := (HB.out.cell (World.block_lt_of_cell? w _ hx195_5)).trans hx195_5
                      replace hx195_6 := (HB.out.cell (World.block_lt_of_cell? w _ hx195_6)).trans hx195_6
                      replace p195 := eq_true p195
                      replace q195 := eq_true q195
                      go_wp2_with (first | ((with_reducible refine gate_dst (N := 16) rfl ?_); refine box_event ?hg (N := 16) ?hd (cs := #[.int .i64 0, .string (⟨#[]⟩ : ByteArray), .int .i64 0, .int .i64 0, .int .i64 0, .int .i64 0, .bool false]) (t := 26) ?hr ?_; (case hd => rfl); (case hg => rfl); (case hr => first | (go_simp; done) | (go_simp; rfl)); intro gb196 hg w26 hbox hb; have n0_ := Aside0.mk (Kd.R_below (Kd.R_elderB (by (with_reducible repeat (first | apply Kd.R_alloc | apply Kd.R_drewN | apply Kd.R_drew)); exact HO_14.out) gb196 (Nat.le_of_eq hg.symm)) hb); have n1_ := Aside0.mk (below_step (by repeat (first | (with_reducible first | exact HB.out | apply below_alloc | apply pw_below_drewN | apply below_drew1) | exact HB.out)) hb); have n2_ := Aside0.mk (hbox); have n3_ := Aside0.mk ((by rw [hg]; exact (below_size (by repeat (first | (with_reducible first | exact HB.out | apply below_alloc | apply pw_below_drewN | apply below_drew1) | exact HB.out))) : w.heap.size ≤ gb196)); have n4_ := Aside0.mk ((by rw [hg]; exact (below_size (by repeat (first | (with_reducible first | exact HB.out | apply below_alloc | apply pw_below_drewN | apply below_drew1) | exact HB.out))) : w.heap.size ≤ gb196)); clear HO_14; clear HB; have HO_14 := n0_; have HB := n1_; have BK196 := n2_; have GW196 := n3_; have GE196 := n4_; clear n0_ n1_ n2_ n3_ n4_; clear hb hbox hg; have hcz27_0 : w26.cell? ⟨gb196, 0, none⟩ = some (.int .i64 0) := (blk_cell BK196.out 0).trans rfl; have hcz27_1 : w26.cell? ⟨gb196, 1, none⟩ = some (.string (⟨#[]⟩ : ByteArray)) := (blk_cell BK196.out 1).trans rfl; have hcz27_2 : w26.cell? ⟨gb196, 2, none⟩ = some (.int .i64 0) := (blk_cell BK196.out 2).trans rfl; have hcz27_3 : w26.cell? ⟨gb196, 3, none⟩ = some (.int .i64 0) := (blk_cell BK196.out 3).trans rfl; have hcz27_4 : w26.cell? ⟨gb196, 4, none⟩ = some (.int .i64 0) := (blk_cell BK196.out 4).trans rfl; have hcz27_5 : w26.cell? ⟨gb196, 5, none⟩ = some (.int .i64 0) := (blk_cell BK196.out 5).trans rfl; have hcz27_6 : w26.cell? ⟨gb196, 6, none⟩ = some (.bool false) := (blk_cell BK196.out 6).trans rfl; have hfz27_0 := blk_frozen BK196.out 0; have hfz27_1 := blk_frozen BK196.out 1; have hfz27_2 := blk_frozen BK196.out 2; have hfz27_3 := blk_frozen BK196.out 3; have hfz27_4 := blk_frozen BK196.out 4; have hfz27_5 := blk_frozen BK196.out 5; have hfz27_6 := blk_frozen BK196.out 6))
                      go_roundg k2
                      case measure => have := HJ8.out; have := HK2.out; omega
                      case rel => exact ⟨(x14_2), (wrap64 (x37_2 + 1)), (by first | rfl | (simp; done) | (simp [*]; done)), H', ⟨by have := HJ8.out; have := HK2.out; omega⟩, ⟨by (with_reducible repeat (first | apply Kd.R_alloc | apply Kd.R_drewN | apply Kd.R_drew)); exact Kd.R_mono (Kd.R_far (p := ⟨gb196, 6, none⟩) (Kd.R_far (p := ⟨gb196, 5, none⟩) (Kd.R_far (p := ⟨gb196, 4, none⟩) (Kd.R_far (p := ⟨gb196, 3, none⟩) (Kd.R_far (p := ⟨gb196, 2, none⟩) (Kd.R_far (p := ⟨gb196, 1, none⟩) (Kd.R_far (p := ⟨gb196, 0, none⟩) (Kd.R_mono HO_14.out (fun k_ hk => (⟨hk, hk.2⟩ : _ ∧ k_ ≠ gb196))) (fun _ hk => hk.2) (.int .i64 ((rd_T26 l0 x37_2).f0))) (fun _ hk => hk.2) (.string ((rd_T26 l0 x37_2).f1))) (fun _ hk => hk.2) (.int .i64 ((rd_T26 l0 x37_2).f2))) (fun _ hk => hk.2) (.int .i64 ((rd_T26 l0 x37_2).f3.f0))) (fun _ hk => hk.2) (.int .i64 ((rd_T26 l0 x37_2).f3.f1))) (fun _ hk => hk.2) (.int .i64 ((rd_T26 l0 x37_2).f4))) (fun _ hk => hk.2) (.bool ((rd_T26 l0 x37_2).f5))) (fun _ hk => trivial)⟩, ⟨by repeat (first | (with_reducible first | exact HB.out | apply below_alloc | apply pw_below_drewN | apply below_drew1 | refine below_set ?_ GE196.out) | exact HB.out)⟩⟩
                  · rw [if_neg c17] at H
                    exact absurd H (by simp)
                · rw [if_neg c16] at H
                  exact absurd H (by simp)
              · rw [if_neg c15] at H
                have c15b0 : decide (x37_2 < (l0.length : Int)) = false := decide_eq_false c15
                clear c15
                replace H := Option.bind_eq_some_iff.mp H
                obtain ⟨⟨t200, t201, t202⟩, A280, H⟩ := H
                replace H : ((facts_Value.f x14_2 a1 a2 a4 a5).bind fun bt203 => (if true = true then (if t200 = bt203.1 then (if (t201 == bt203.2.1) = true then (if t202 = bt203.2.2 then ((facts_Days.f l0 a1 a2 a3 a5).bind fun bt206 => ((facts_Days.f x14_2 a1 a2 a3 a5).bind fun bt210 => ((cohousingref04_Same.f k2 bt206.1 bt210.1).bind fun t214 => (if t214 = true then (if bt206.2 = bt210.2 then ((facts_Differ.f l0 a1 a2 a4 a5).bind fun bt215 => ((facts_Differ.f x14_2 a1 a2 a4 a5).bind fun bt219 => ((cohousingref04_Same.f k2 bt215.1 bt219.1).bind fun t223 => (if t223 = true then (if bt215.2 = bt219.2 then (some true) else (none)) else (none))))) else (none)) else (none))))) else (none)) else (none)) else (none)) else (none))) = some r := H
                have A28 := Aside0.mk A280
                clear A280
                replace H := Option.bind_eq_some_iff.mp H
                obtain ⟨⟨t203, t204, t205⟩, A290, H⟩ := H
                replace H : (if true = true then (if t200 = t203 then (if (t201 == t204) = true then (if t202 = t205 then ((facts_Days.f l0 a1 a2 a3 a5).bind fun bt206 => ((facts_Days.f x14_2 a1 a2 a3 a5).bind fun bt210 => ((cohousingref04_Same.f k2 bt206.1 bt210.1).bind fun t214 => (if t214 = true then (if bt206.2 = bt210.2 then ((facts_Differ.f l0 a1 a2 a4 a5).bind fun bt215 => ((facts_Differ.f x14_2 a1 a2 a4 a5).bind fun bt219 => ((cohousingref04_Same.f k2 bt215.1 bt219.1).bind fun t223 => (if t223 = true then (if bt215.2 = bt219.2 then (some true) else (none)) else (none))))) else (none)) else (none))))) else (none)) else (none)) else (none)) else (none)) = some r := H
                have A29 := Aside0.mk A290
                clear A290
                replace H : (if t200 = t203 then (if (t201 == t204) = true then (if t202 = t205 then ((facts_Days.f l0 a1 a2 a3 a5).bind fun bt206 => ((facts_Days.f x14_2 a1 a2 a3 a5).bind fun bt210 => ((cohousingref04_Same.f k2 bt206.1 bt210.1).bind fun t214 => (if t214 = true then (if bt206.2 = bt210.2 then ((facts_Differ.f l0 a1 a2 a4 a5).bind fun bt215 => ((facts_Differ.f x14_2 a1 a2 a4 a5).bind fun bt219 => ((cohousingref04_Same.f k2 bt215.1 bt219.1).bind fun t223 => (if t223 = true then (if bt215.2 = bt219.2 then (some true) else (none)) else (none))))) else (none)) else (none))))) else (none)) else (none)) else (none)) = some r := by first | (rw [if_pos rfl] at H; exact H) | (rw [if_pos trivial] at H; exact H)
                by_cases c30 : t200 = t203
                · rw [if_pos c30] at H
                  have c30b0 : (t200 == t203) = true := beq_iff_eq.mpr c30
                  have c30b1 : (t200 != t203) = false := bne_eq_false_iff_eq.mpr c30
                  clear c30
                  by_cases c31 : (t201 == t204) = true
                  · rw [if_pos c31] at H
                    have c31b0 : (t201 == t204) = true := c31
                    (try (have c31b1 : decide (t201 = t204) = true := by simpa using c31))
                    (try (have c31b2 : (t201 == t204) = true := by simpa using c31))
                    clear c31
                    by_cases c32 : t202 = t205
                    · rw [if_pos c32] at H
                      have c32b0 : (t202 == t205) = true := beq_iff_eq.mpr c32
                      have c32b1 : (t202 != t205) = false := bne_eq_false_iff_eq.mpr c32
                      clear c32
                      replace H := Option.bind_eq_some_iff.mp H
                      obtain ⟨⟨t206, t207⟩, A330, H⟩ := H
                      replace H : ((facts_Days.f x14_2 a1 a2 a3 a5).bind fun bt210 => ((cohousingref04_Same.f k2 t206 bt210.1).bind fun t214 => (if t214 = true then (if t207 = bt210.2 then ((facts_Differ.f l0 a1 a2 a4 a5).bind fun bt215 => ((facts_Differ.f x14_2 a1 a2 a4 a5).bind fun bt219 => ((cohousingref04_Same.f k2 bt215.1 bt219.1).bind fun t223 => (if t223 = true then (if bt215.2 = bt219.2 then (some true) else (none)) else (none))))) else (none)) else (none)))) = some r := H
                      have A33 := Aside0.mk A330
                      clear A330
                      replace H := Option.bind_eq_some_iff.mp H
                      obtain ⟨⟨t210, t211⟩, A340, H⟩ := H
                      replace H : ((cohousingref04_Same.f k2 t206 t210).bind fun t214 => (if t214 = true then (if t207 = t211 then ((facts_Differ.f l0 a1 a2 a4 a5).bind fun bt215 => ((facts_Differ.f x14_2 a1 a2 a4 a5).bind fun bt219 => ((cohousingref04_Same.f k2 bt215.1 bt219.1).bind fun t223 => (if t223 = true then (if bt215.2 = bt219.2 then (some true) else (none)) else (none))))) else (none)) else (none))) = some r := H
                      have A34 := Aside0.mk A340
                      clear A340
                      replace H := Option.bind_eq_some_iff.mp H
                      obtain ⟨t214, A350, H⟩ := H
                      replace H : (if t214 = true then (if t207 = t211 then ((facts_Differ.f l0 a1 a2 a4 a5).bind fun bt215 => ((facts_Differ.f x14_2 a1 a2 a4 a5).bind fun bt219 => ((cohousingref04_Same.f k2 bt215.1 bt219.1).bind fun t223 => (if t223 = true then (if bt215.2 = bt219.2 then (some true) else (none)) else (none))))) else (none)) else (none)) = some r := H
                      have A35 := Aside0.mk A350
                      clear A350
                      by_cases c36 : t214 = true
                      · subst c36
                        have H1 : (if t207 = t211 then ((facts_Differ.f l0 a1 a2 a4 a5).bind fun bt215 => ((facts_Differ.f x14_2 a1 a2 a4 a5).bind fun bt219 => ((cohousingref04_Same.f k2 bt215.1 bt219.1).bind fun t223 => (if t223 = true then (if bt215.2 = bt219.2 then (some true) else (none)) else (none))))) else (none)) = some r := by rw [if_pos rfl] at H; exact H
                        clear H
                        have H := H1
                        clear H1
                        by_cases c37 : t207 = t211
                        · rw [if_pos c37] at H
                          have c37b0 : (t207 == t211) = true := beq_iff_eq.mpr c37
                          have c37b1 : (t207 != t211) = false := bne_eq_false_iff_eq.mpr c37
                          clear c37
                          replace H := Option.bind_eq_some_iff.mp H
                          obtain ⟨⟨t215, t216⟩, A380, H⟩ := H
                          replace H : ((facts_Differ.f x14_2 a1 a2 a4 a5).bind fun bt219 => ((cohousingref04_Same.f k2 t215 bt219.1).bind fun t223 => (if t223 = true then (if t216 = bt219.2 then (some true) else (none)) else (none)))) = some r := H
                          have A38 := Aside0.mk A380
                          clear A380
                          replace H := Option.bind_eq_some_iff.mp H
                          obtain ⟨⟨t219, t220⟩, A390, H⟩ := H
                          replace H : ((cohousingref04_Same.f k2 t215 t219).bind fun t223 => (if t223 = true then (if t216 = t220 then (some true) else (none)) else (none))) = some r := H
                          have A39 := Aside0.mk A390
                          clear A390
                          replace H := Option.bind_eq_some_iff.mp H
                          obtain ⟨t223, A400, H⟩ := H
                          replace H : (if t223 = true then (if t216 = t220 then (some true) else (none)) else (none)) = some r := H
                          have A40 := Aside0.mk A400
                          clear A400
                          by_cases c41 : t223 = true
                          · subst c41
                            have H1 : (if t216 = t220 then (some true) else (none)) = some r := by rw [if_pos rfl] at H; exact H
                            clear H
                            have H := H1
                            clear H1
                            by_cases c42 : t216 = t220
                            · rw [if_pos c42] at H
                              have c42b0 : (t216 == t220) = true := beq_iff_eq.mpr c42
                              have c42b1 : (t216 != t220) = false := bne_eq_false_iff_eq.mpr c42
                              clear c42
                              obtain rfl := Option.some.inj H
                              go_wp2_with (first | ((with_reducible refine gate_callee (f := 12) rfl ?_); refine goesL_ (some 62) rfl rfl Tryz.func12 (by kernel_rfl) rfl #[.slice A0 l0.length c0, .int .i64 a1, .string a2, .int .i64 a4, .int .i64 a5] rfl (by (try simp only [List.map_toArray, List.map_cons, List.map_nil]); first | done | rfl | (simp only [List.length_drop, List.length_take]; rfl)) ?_; (with_reducible refine (facts_Value.calls _ _ l0 a1 a2 a4 a5 t200 t201 t202 _ ?side1 ?side2 A28.out).mono ?_); (case side1 => repeat (first | exact (Kd.C_below HR0.out HB.out) | (with_reducible refine Kd.C_alloc ?_ _) | (with_reducible refine Kd.C_drewN ?_ _) | (with_reducible refine Kd.C_drew ?_))); (case side2 => exact HC0.out); rintro e w43 ⟨rfl, hb⟩; refine ⟨_, rfl, ?_⟩; have n0_ := Aside0.mk (Kd.R_below (by (with_reducible repeat (first | apply Kd.R_alloc | apply Kd.R_drewN | apply Kd.R_drew)); exact HO_14.out) hb); have n1_ := Aside0.mk (below_step (by repeat (first | (with_reducible first | exact HB.out | apply below_alloc | apply pw_below_drewN | apply below_drew1) | exact HB.out)) hb); clear HO_14; clear HB; have HO_14 := n0_; have HB := n1_; clear n0_ n1_; (try clear hb); (try clear hb2); (try clear hk); (try clear hi); obtain ⟨Ao44, co44, eo44⟩ := Kd.R_slice HO_14.out; subst eo44) | ((with_reducible refine gate_callee (f := 12) rfl ?_); refine goesL_ (some 72) rfl rfl Tryz.func12 (by kernel_rfl) rfl #[.slice Ao44 x14_2.length co44, .int .i64 a1, .string a2, .int .i64 a4, .int .i64 a5] rfl (by (try simp only [List.map_toArray, List.map_cons, List.map_nil]); first | done | rfl | (simp only [List.length_drop, List.length_take]; rfl)) ?_; (with_reducible refine (facts_Value.calls _ _ x14_2 a1 a2 a4 a5 t203 t204 t205 _ ?side1 ?side2 A29.out).mono ?_); (case side1 => repeat (first | exact (Kd.R_reads' HO_14.out).2.2 | (with_reducible refine Kd.C_alloc ?_ _) | (with_reducible refine Kd.C_drewN ?_ _) | (with_reducible refine Kd.C_drew ?_))); (case side2 => exact (Kd.R_reads' HO_14.out).2.1); rintro e w45 ⟨rfl, hb⟩; refine ⟨_, rfl, ?_⟩; have n0_ := Aside0.mk (Kd.R_below (by (with_reducible repeat (first | apply Kd.R_alloc | apply Kd.R_drewN | apply Kd.R_drew)); exact HO_14.out) hb); have n1_ := Aside0.mk (below_step (by repeat (first | (with_reducible first | exact HB.out | apply below_alloc | apply pw_below_drewN | apply below_drew1) | exact HB.out)) hb); clear HO_14; clear HB; have HO_14 := n0_; have HB := n1_; clear n0_ n1_; (try clear hb); (try clear hb2); (try clear hk); (try clear hi)) | ((with_reducible refine gate_callee (f := 13) rfl ?_); refine goesL_ (some 98) rfl rfl Tryz.func13 (by kernel_rfl) rfl #[.slice A0 l0.length c0, .int .i64 a1, .string a2, .int .i64 a3, .int .i64 a5] rfl (by (try simp only [List.map_toArray, List.map_cons, List.map_nil]); first | done | rfl | (simp only [List.length_drop, List.length_take]; rfl)) ?_; (with_reducible refine (facts_Days.calls _ _ l0 a1 a2 a3 a5 t206 t207 _ ?side1 ?side2 A33.out).mono ?_); (case side1 => repeat (first | exact (Kd.C_below HR0.out HB.out) | (with_reducible refine Kd.C_alloc ?_ _) | (with_reducible refine Kd.C_drewN ?_ _) | (with_reducible refine Kd.C_drew ?_))); (case side2 => exact HC0.out); rintro e w46 ⟨v208, rfl, ho0, hb⟩; refine ⟨_, rfl, ?_⟩; have n0_ := Aside0.mk (Kd.R_below (by (with_reducible repeat (first | apply Kd.R_alloc | apply Kd.R_drewN | apply Kd.R_drew)); exact HO_14.out) hb); have n1_ := Aside0.mk (Kd.R_lower ho0 (below_size (by repeat (first | (with_reducible first | exact HB.out | apply below_alloc | apply pw_below_drewN | apply below_drew1) | exact HB.out)))); have n2_ := Aside0.mk (below_step (by repeat (first | (with_reducible first | exact HB.out | apply below_alloc | apply pw_below_drewN | apply below_drew1) | exact HB.out)) hb); clear HO_14; clear HB; have HO_14 := n0_; have HO209 := n1_; have HB := n2_; clear n0_ n1_ n2_; (try clear hb); (try clear hb2); (try clear hk); (try clear hi); (try clear ho0)) | ((with_reducible refine gate_callee (f := 13) rfl ?_); refine goesL_ (some 107) rfl rfl Tryz.func13 (by kernel_rfl) rfl #[.slice Ao44 x14_2.length co44, .int .i64 a1, .string a2, .int .i64 a3, .int .i64 a5] rfl (by (try simp only [List.map_toArray, List.map_cons, List.map_nil]); first | done | rfl | (simp only [List.length_drop, List.length_take]; rfl)) ?_; (with_reducible refine (facts_Days.calls _ _ x14_2 a1 a2 a3 a5 t210 t211 _ ?side1 ?side2 A34.out).mono ?_); (case side1 => repeat (first | exact (Kd.R_reads' HO_14.out).2.2 | (with_reducible refine Kd.C_alloc ?_ _) | (with_reducible refine Kd.C_drewN ?_ _) | (with_reducible refine Kd.C_drew ?_))); (case side2 => exact (Kd.R_reads' HO_14.out).2.1); rintro e w47 ⟨v212, rfl, ho0, hb⟩; refine ⟨_, rfl, ?_⟩; have n0_ := Aside0.mk (Kd.R_below (by (with_reducible repeat (first | apply Kd.R_alloc | apply Kd.R_drewN | apply Kd.R_drew)); exact HO_14.out) hb); have n1_ := Aside0.mk (Kd.R_elder' (by (with_reducible repeat (first | apply Kd.R_alloc | apply Kd.R_drewN | apply Kd.R_drew)); exact HO209.out) (Kd.R_base ho0) hb); have n2_ := Aside0.mk (Kd.R_lower (Kd.R_new' ho0 (Kd.R_lt (by (with_reducible repeat (first | apply Kd.R_alloc | apply Kd.R_drewN | apply Kd.R_drew)); exact HO209.out))) (below_size (by repeat (first | (with_reducible first | exact HB.out | apply below_alloc | apply pw_below_drewN | apply below_drew1) | exact HB.out)))); have n3_ := Aside0.mk (below_step (by repeat (first | (with_reducible first | exact HB.out | apply below_alloc | apply pw_below_drewN | apply below_drew1) | exact HB.out)) hb); clear HO_14; clear HO209; clear HB; have HO_14 := n0_; have HO209 := n1_; have HO213 := n2_; have HB := n3_; clear n0_ n1_ n2_ n3_; (try clear hb); (try clear hb2); (try clear hk); (try clear hi); (try clear ho0); obtain ⟨Ao48, co48, eo48⟩ := Kd.R_slice HO209.out; subst eo48; obtain ⟨Ao49, co49, eo49⟩ := Kd.R_slice HO213.out; subst eo49) | (go_at_call 14; (with_reducible refine (cohousingref04_Same.calls k2 _ _ t206 _ _ t210 true _ ?side1 ?side2 ?side3 ?side4 A35.out).mono ?_); (case side1 => repeat (first | exact (Kd.R_reads' HO209.out).2.2 | (with_reducible refine Kd.C_alloc ?_ _) | (with_reducible refine Kd.C_drewN ?_ _) | (with_reducible refine Kd.C_drew ?_))); (case side2 => exact (Kd.R_reads' HO209.out).2.1); (case side3 => repeat (first | exact (Kd.R_reads' HO213.out).2.2 | (with_reducible refine Kd.C_alloc ?_ _) | (with_reducible refine Kd.C_drewN ?_ _) | (with_reducible refine Kd.C_drew ?_))); (case side4 => exact (Kd.R_reads' HO213.out).2.1); rintro e w' ⟨rfl, ⟨nd, rfl⟩⟩) | ((with_reducible refine gate_callee (f := 15) rfl ?_); refine goesL_ (some 127) rfl rfl Tryz.func15 (by kernel_rfl) rfl #[.slice A0 l0.length c0, .int .i64 a1, .string a2, .int .i64 a4, .int .i64 a5] rfl (by (try simp only [List.map_toArray, List.map_cons, List.map_nil]); first | done | rfl | (simp only [List.length_drop, List.length_take]; rfl)) ?_; (with_reducible refine (facts_Differ.calls _ _ l0 a1 a2 a4 a5 t215 t216 _ ?side1 ?side2 A38.out).mono ?_); (case side1 => repeat (first | exact (Kd.C_below HR0.out (by repeat (first | (with_reducible first | exact HB.out | apply below_alloc | apply pw_below_drewN | apply below_drew1) | exact HB.out))) | (with_reducible refine Kd.C_alloc ?_ _) | (with_reducible refine Kd.C_drewN ?_ _) | (with_reducible refine Kd.C_drew ?_))); (case side2 => exact HC0.out); rintro e w50 ⟨v217, rfl, ho0, hb⟩; refine ⟨_, rfl, ?_⟩; have n0_ := Aside0.mk (Kd.R_below (by (with_reducible repeat (first | apply Kd.R_alloc | apply Kd.R_drewN | apply Kd.R_drew)); exact HO_14.out) hb); have n1_ := Aside0.mk (Kd.R_elder' (by (with_reducible repeat (first | apply Kd.R_alloc | apply Kd.R_drewN | apply Kd.R_drew)); exact HO209.out) (Kd.R_base ho0) hb); have n2_ := Aside0.mk (Kd.R_elder' (by (with_reducible repeat (first | apply Kd.R_alloc | apply Kd.R_drewN | apply Kd.R_drew)); exact HO213.out) (Kd.R_base ho0) hb); have n3_ := Aside0.mk (Kd.R_lower (Kd.R_new' (Kd.R_new' ho0 (Kd.R_lt (by (with_reducible repeat (first | apply Kd.R_alloc | apply Kd.R_drewN | apply Kd.R_drew)); exact HO209.out))) (Kd.R_lt (by (with_reducible repeat (first | apply Kd.R_alloc | apply Kd.R_drewN | apply Kd.R_drew)); exact HO213.out))) (below_size (by repeat (first | (with_reducible first | exact HB.out | apply below_alloc | apply pw_below_drewN | apply below_drew1) | exact HB.out)))); have n4_ := Aside0.mk (below_step (by repeat (first | (with_reducible first | exact HB.out | apply below_alloc | apply pw_below_drewN | apply below_drew1) | exact HB.out)) hb); clear HO_14; clear HO209; clear HO213; clear HB; have HO_14 := n0_; have HO209 := n1_; have HO213 := n2_; have HO218 := n3_; have HB := n4_; clear n0_ n1_ n2_ n3_ n4_; (try clear hb); (try clear hb2); (try clear hk); (try clear hi); (try clear ho0)) | ((with_reducible refine gate_callee (f := 15) rfl ?_); refine goesL_ (some 136) rfl rfl Tryz.func15 (by kernel_rfl) rfl #[.slice Ao44 x14_2.length co44, .int .i64 a1, .string a2, .int .i64 a4, .int .i64 a5] rfl (by (try simp only [List.map_toArray, List.map_cons, List.map_nil]); first | done | rfl | (simp only [List.length_drop, List.length_take]; rfl)) ?_; (with_reducible refine (facts_Differ.calls _ _ x14_2 a1 a2 a4 a5 t219 t220 _ ?side1 ?side2 A39.out).mono ?_); (case side1 => repeat (first | exact (Kd.R_reads' HO_14.out).2.2 | (with_reducible refine Kd.C_alloc ?_ _) | (with_reducible refine Kd.C_drewN ?_ _) | (with_reducible refine Kd.C_drew ?_))); (case side2 => exact (Kd.R_reads' HO_14.out).2.1); rintro e w51 ⟨v221, rfl, ho0, hb⟩; refine ⟨_, rfl, ?_⟩; have n0_ := Aside0.mk (Kd.R_below (by (with_reducible repeat (first | apply Kd.R_alloc | apply Kd.R_drewN | apply Kd.R_drew)); exact HO_14.out) hb); have n1_ := Aside0.mk (Kd.R_elder' (by (with_reducible repeat (first | apply Kd.R_alloc | apply Kd.R_drewN | apply Kd.R_drew)); exact HO209.out) (Kd.R_base ho0) hb); have n2_ := Aside0.mk (Kd.R_elder' (by (with_reducible repeat (first | apply Kd.R_alloc | apply Kd.R_drewN | apply Kd.R_drew)); exact HO213.out) (Kd.R_base ho0) hb); have n3_ := Aside0.mk (Kd.R_elder' (by (with_reducible repeat (first | apply Kd.R_alloc | apply Kd.R_drewN | apply Kd.R_drew)); exact HO218.out) (Kd.R_base ho0) hb); have n4_ := Aside0.mk (Kd.R_lower (Kd.R_new' (Kd.R_new' (Kd.R_new' ho0 (Kd.R_lt (by (with_reducible repeat (first | apply Kd.R_alloc | apply Kd.R_drewN | apply Kd.R_drew)); exact HO209.out))) (Kd.R_lt (by (with_reducible repeat (first | apply Kd.R_alloc | apply Kd.R_drewN | apply Kd.R_drew)); exact HO213.out))) (Kd.R_lt (by (with_reducible repeat (first | apply Kd.R_alloc | apply Kd.R_drewN | apply Kd.R_drew)); exact HO218.out))) (below_size (by repeat (first | (with_reducible first | exact HB.out | apply below_alloc | apply pw_below_drewN | apply below_drew1) | exact HB.out)))); have n5_ := Aside0.mk (below_step (by repeat (first | (with_reducible first | exact HB.out | apply below_alloc | apply pw_below_drewN | apply below_drew1) | exact HB.out)) hb); clear HO_14; clear HO209; clear HO213; clear HO218; clear HB; have HO_14 := n0_; have HO209 := n1_; have HO213 := n2_; have HO218 := n3_; have HO222 := n4_; have HB := n5_; clear n0_ n1_ n2_ n3_ n4_ n5_; (try clear hb); (try clear hb2); (try clear hk); (try clear hi); (try clear ho0); obtain ⟨Ao52, co52, eo52⟩ := Kd.R_slice HO218.out; subst eo52; obtain ⟨Ao53, co53, eo53⟩ := Kd.R_slice HO222.out; subst eo53) | (go_at_call 14; (with_reducible refine (cohousingref04_Same.calls k2 _ _ t215 _ _ t219 true _ ?side1 ?side2 ?side3 ?side4 A40.out).mono ?_); (case side1 => repeat (first | exact (Kd.R_reads' HO218.out).2.2 | (with_reducible refine Kd.C_alloc ?_ _) | (with_reducible refine Kd.C_drewN ?_ _) | (with_reducible refine Kd.C_drew ?_))); (case side2 => exact (Kd.R_reads' HO218.out).2.1); (case side3 => repeat (first | exact (Kd.R_reads' HO222.out).2.2 | (with_reducible refine Kd.C_alloc ?_ _) | (with_reducible refine Kd.C_drewN ?_ _) | (with_reducible refine Kd.C_drew ?_))); (case side4 => exact (Kd.R_reads' HO222.out).2.1); rintro e w' ⟨rfl, ⟨nd, rfl⟩⟩))
                              go_ret
                              exact ⟨by first | rfl | (simp [errW_none, errW_some] <;> rfl) | (simp [*, errW_none, errW_some] <;> rfl), by repeat (first | (with_reducible first | exact HB.out | apply below_alloc | apply pw_below_drewN | apply below_drew1) | exact HB.out)⟩
                            · rw [if_neg c42] at H
                              exact absurd H (by simp)
                          · replace c41 := Bool.eq_false_iff.mpr c41
                            subst c41
                            have H1 : (none) = some r := by rw [if_neg (show ¬ (false = true) by decide)] at H; exact H
                            clear H
                            have H := H1
                            clear H1
                            exact absurd H (by simp)
                        · rw [if_neg c37] at H
                          exact absurd H (by simp)
                      · replace c36 := Bool.eq_false_iff.mpr c36
                        subst c36
                        have H1 : (none) = some r := by rw [if_neg (show ¬ (false = true) by decide)] at H; exact H
                        clear H
                        have H := H1
                        clear H1
                        exact absurd H (by simp)
                    · rw [if_neg c32] at H
                      exact absurd H (by simp)
                  · rw [if_neg c31] at H
                    exact absurd H (by simp)
                · rw [if_neg c30] at H
                  exact absurd H (by simp)
  · replace c8 := Bool.eq_false_iff.mpr c8
    subst c8
    have H1 : (none) = some r := by rw [if_neg (show ¬ (false = true) by decide)] at H; exact H
    clear H
    have H := H1
    clear H1
    exact absurd H (by simp)

/-! ### span_Has: function 41 -/
-- by hand: cohousing/span.Has
section
open Go.Sort (grow alloc_eq_grow grow_grow)
/-- Has' closure. -/
theorem clo43 (s : S24) (B : Nat) (day : Int) (W : World) (hc : W.cell? ⟨B, 0, none⟩ = some (.int .i64 day)) : Calls Tryz.prog 75 #[.agg #[.int .i64 s.f0, .int .i64 s.f1], .pointer (some ⟨B, 0, none⟩)] W fun e w' => e = .returned (.bool (decide (s.f0 ≤ day) && decide (day < s.f1))) ∧ Below W.heap.size W w' := by
  have hBW : B < W.heap.size := World.block_lt_of_cell? W _ hc
  have hne : B ≠ W.heap.size := Nat.ne_of_lt hBW
  by_cases h1 : s.f0 ≤ day
  · have h1b : decide (s.f0 ≤ day) = true := decide_eq_true h1
    by_cases h2 : day < s.f1
    · have h2b : decide (day < s.f1) = true := decide_eq_true h2
      rw [show (decide (s.f0 ≤ day) && decide (day < s.f1)) = true by rw [h1b, h2b]; rfl]
      go_enter Tryz.func75, Tryz.ntmps75
      go_wp2
      go_ret
      exact ⟨rfl, below_alloc (Below.refl _ _) _⟩
    · have h2b : decide (day < s.f1) = false := decide_eq_false h2
      rw [show (decide (s.f0 ≤ day) && decide (day < s.f1)) = false by rw [h1b, h2b]; rfl]
      go_enter Tryz.func75, Tryz.ntmps75
      go_wp2
      go_ret
      exact ⟨rfl, below_alloc (Below.refl _ _) _⟩
  · have h1b : decide (s.f0 ≤ day) = false := decide_eq_false h1
    rw [show (decide (s.f0 ≤ day) && decide (day < s.f1)) = false by rw [h1b]; rfl]
    go_enter Tryz.func75, Tryz.ntmps75
    go_wp2
    go_ret
    exact ⟨rfl, below_alloc (Below.refl _ _) _⟩

theorem enters43 : ∀ args w, (callFunc 75 args).run Tryz.prog w = .ok (.enter 75 args) w := enters_of Tryz.func75 (by kernel_rfl) rfl

theorem pred43 (day : Int) (B : Nat) (w : World) (hcell : w.cell? ⟨B, 0, none⟩ = some (.int .i64 day)) :
    PredBelow Tryz.prog 75 #[.pointer (some ⟨B, 0, none⟩)] (fun x => .agg (enc30 x).toArray) (dayIn day) w := fun W x hb =>
  (clo43 x B day W ((hb.cell (p := ⟨B, 0, none⟩) (World.block_lt_of_cell? w _ hcell)).trans hcell)).mono fun e w' h => ⟨h.1, below_step hb h.2⟩

set_option maxHeartbeats 1000000 in
theorem any_none (A : Option Addr) (c : Nat) (cb : Array Value) (W : World) : Calls Tryz.prog 74 #[.slice A 0 c, .func (.func 75) #[] cb] W fun e w' => e = .returned (.bool false) ∧ Below W.heap.size W w' := by
  have hidx : ∀ W, Calls Tryz.prog 99 #[.slice A 0 c, .func (.func 75) #[] cb] W fun e w' => e = .returned (.int .i64 (-1)) ∧ Below W.heap.size W w' := by
    intro W
    go_enter Tryz.func99, Tryz.ntmps99
    go_wp2
    refine wp_loop_rounds 1 ?_
    rw [rounds_succ]
    go_wp2
    all_goals (go_ret; exact ⟨rfl, by repeat (first | exact Below.refl _ _ | apply pw_below_drewN | apply below_drew1)⟩)
  have H := Lib.hid hidx
  clear hidx
  go_enter Tryz.func74, Tryz.ntmps74
  go_wp2_with (go_at_call 99; refine (H.out _).mono ?_; rintro e w' ⟨rfl, hb⟩)
  go_ret
  exact ⟨rfl, hb⟩

set_option maxHeartbeats 1000000 in
theorem any_ok (day : Int) (B : Nat) (A : Option Addr) (c : Nat) (l : List S24) (W : World) (hC : Kd.C k24 W A l.length l) (hcell : W.cell? ⟨B, 0, none⟩ = some (.int .i64 day)) :
    Calls Tryz.prog 74 #[.slice A l.length c, .func (.func 75) #[] #[.pointer (some ⟨B, 0, none⟩)]] W fun e w' => e = .returned (.bool (l.any (dayIn day))) ∧ Below W.heap.size W w' := by
  cases hl : l with
  | nil => exact any_none A c _ W
  | cons s r =>
    rw [← hl]
    obtain ⟨b, off, e, hb, hc⟩ := row30 hC (by rw [hl]; simp)
    subst e
    have hbig : l.length ≤ 9223372036854775807 := hC.2.1
    have hcon := AnyQ.slices_ContainsFunc Tryz.layAny 2 Tryz.isAgg24 Tryz.sizeOf24 enc30 (fun _ => rfl) (dayIn day) 75 #[.pointer (some ⟨B, 0, none⟩)] enters43 b off l.length c l W (pred43 day B W hcell) (Nat.le_refl _) hbig hb (fun j hj i v hi => by
      have h1 := hc j hj
      generalize l[j]! = y at hi h1
      match i, hi with
      | 0, hi => simp [enc30] at hi; rw [← hi]; exact h1.1
      | 1, hi => simp [enc30] at hi; rw [← hi]; exact h1.2
      | i + 2, hi => simp [enc30] at hi)
    rw [List.take_length] at hcon
    exact hcon

def span_Has.f (k : Nat) (l0 : List S24) (a1 : Int) : Option (Bool × Int) := (span_Valid.f k l0).bind fun t => (if t = true then (some (l0.any (dayIn a1), 0)) else (some (false, 1)))
theorem span_Has.mono : ∀ l0 a1 k, LeO (span_Has.f k l0 a1) (span_Has.f (k + 1) l0 a1) := by
  intro l0 a1 k
  unfold span_Has.f
  exact LeO.bind (span_Valid.mono l0 k) (fun _ => LeO.refl _)
set_option maxHeartbeats 4000000 in
set_option maxRecDepth 100000 in
theorem span_Has.calls (k : Nat) (A0 : Option Addr) (c0 : Nat) (l0 : List S24) (a1 : Int) (r1 : Bool) (r2 : Int) (w : World) (hr0 : Kd.C k24 w A0 l0.length l0) (hc0 : l0.length ≤ c0) (h : span_Has.f k l0 a1 = some (r1, r2)) :
    Calls Tryz.prog 41 #[.slice A0 l0.length c0, .int .i64 a1] w fun e w' => e = .returned (.tuple #[.bool r1, .int .i64 r2]) ∧ Below w.heap.size w w' := by
  unfold span_Has.f at h
  obtain ⟨t, hv, h⟩ := Option.bind_eq_some_iff.mp h
  have HV := Lib.hid hv
  have HR := Lib.hid hr0
  have HC := Lib.hid hc0
  clear hv hr0 hc0
  cases t with
  | true =>
    rw [if_pos rfl] at h
    simp only [Option.some.injEq, Prod.mk.injEq] at h
    obtain ⟨rfl, rfl⟩ := h
    generalize hany : l0.any (dayIn a1) = b
    have HANY := Lib.hid hany
    clear hany
    go_enter Tryz.func41, Tryz.ntmps41
    go_wp2_with (first
      | (go_at_call 16; refine (span_Valid.calls k A0 c0 l0 true _ (Kd.C_alloc HR.out _) HC.out HV.out).mono ?_; rintro e w2 ⟨rfl, hb⟩; have hcell : w2.cell? ⟨w.heap.size, 0, none⟩ = some (.int .i64 a1) := (pw_cell_below hb (by go_simp)); have hb2 : Below w.heap.size w w2 := below_step (below_alloc (Below.refl _ _) _) hb; have HCELL := Lib.hid hcell; have HB := Lib.hid hb2; clear hcell hb2 hb)
      | (go_at_call 74; refine (any_ok a1 w.heap.size A0 c0 l0 _ (by first | exact Kd.C_below HR.out HB.out | exact Kd.C_drew (Kd.C_below HR.out HB.out)) HCELL.out).mono ?_; rintro e w3 ⟨rfl, hb3⟩; have hb4 : Below w.heap.size w w3 := below_step HB.out hb3; have HB4 := Lib.hid hb4; clear hb3 hb4))
    go_ret2
    exact ⟨by first | rfl | (rw [HANY.out]; rfl), by repeat (first | exact HB4.out | apply pw_below_drewN | apply below_drew1)⟩
  | false =>
    rw [if_neg (by decide)] at h
    simp only [Option.some.injEq, Prod.mk.injEq] at h
    obtain ⟨rfl, rfl⟩ := h
    go_enter Tryz.func41, Tryz.ntmps41
    go_wp2_with (first
      | (go_at_call 16; refine (span_Valid.calls k A0 c0 l0 false _ (Kd.C_alloc HR.out _) HC.out HV.out).mono ?_; rintro e w2 ⟨rfl, hb⟩; have hb2 : Below w.heap.size w w2 := below_step (below_alloc (Below.refl _ _) _) hb; have HB := Lib.hid hb2; clear hb2 hb))
    go_ret2
    exact ⟨rfl, by repeat (first | exact HB.out | apply pw_below_drewN | apply below_drew1)⟩
end

/-! ### cohousinglaw16_has: function 17 -/
def cohousinglaw16_has.f (k : Nat) (l0 : List (S24)) (a1 : Int) : Option (Bool) := (span_Has.f k l0 a1).bind fun bt224 => (if bt224.1 = true then (some (bt224.2 == 0)) else (some false))
theorem cohousinglaw16_has.mono : ∀ a0 a1 k, LeO (cohousinglaw16_has.f k a0 a1) (cohousinglaw16_has.f (k + 1) a0 a1) := by
  intro a0 a1 k
  unfold cohousinglaw16_has.f
  repeat' first
      | (with_reducible exact span_Has.mono _ _ _)
      | (with_reducible exact LeO.refl _)
      | (with_reducible exact LeO.none _)
      | (with_reducible refine LeO.ite ?_ ?_)
      | (with_reducible refine LeO.bind ?_ (fun _ => ?_))
      | exact span_Has.mono _ _ _
      | exact LeO.none _
      | refine LeO.ite ?_ ?_
      | refine LeO.bind ?_ (fun _ => ?_)
set_option maxHeartbeats 8000000 in
set_option maxRecDepth 100000 in
theorem cohousinglaw16_has.calls (k : Nat) (A0 : Option Addr) (c0 : Nat) (l0 : List (S24)) (a1 : Int) (r : Bool) (w : World) (hr0 : Kd.C k24 w A0 l0.length l0) (hc0 : l0.length ≤ c0) (h : cohousinglaw16_has.f k l0 a1 = some r) :
    Calls Tryz.prog 17 #[.slice A0 l0.length c0, .int .i64 a1] w fun e w' => e = .returned (.bool r) ∧ Below w.heap.size w w' := by
  have HR0 := Aside0.mk hr0
  have HC0 := Aside0.mk hc0
  clear hr0 hc0
  have HB := Aside0.mk (Below.refl w.heap.size w)
  have H : ((span_Has.f k l0 a1).bind fun bt224 => (if bt224.1 = true then (some (bt224.2 == 0)) else (some false))) = some r := h
  clear h
  replace H := Option.bind_eq_some_iff.mp H
  obtain ⟨⟨t224, t225⟩, A30, H⟩ := H
  replace H : (if t224 = true then (some (t225 == 0)) else (some false)) = some r := H
  have A3 := Aside0.mk A30
  clear A30
  by_cases c4 : t224 = true
  · subst c4
    have H1 : (some (t225 == 0)) = some r := by rw [if_pos rfl] at H; exact H
    clear H
    have H := H1
    clear H1
    obtain rfl := Option.some.inj H
    go_enter Tryz.func17, Tryz.ntmps17
    go_wp2_with (first | ((with_reducible refine gate_callee (f := 41) rfl ?_); refine goesL_ (some 10) rfl rfl Tryz.func41 (by kernel_rfl) rfl #[.slice A0 l0.length c0, .int .i64 a1] rfl (by (try simp only [List.map_toArray, List.map_cons, List.map_nil]); first | done | rfl | (simp only [List.length_drop, List.length_take]; rfl)) ?_; (with_reducible refine (span_Has.calls k _ _ l0 a1 true t225 _ ?side1 ?side2 A3.out).mono ?_); (case side1 => repeat (first | exact HR0.out | (with_reducible refine Kd.C_alloc ?_ _) | (with_reducible refine Kd.C_drewN ?_ _) | (with_reducible refine Kd.C_drew ?_))); (case side2 => exact HC0.out); rintro e w5 ⟨rfl, hb⟩; refine ⟨_, rfl, ?_⟩; have n0_ := Aside0.mk (below_step (by repeat (first | (with_reducible first | exact HB.out | apply below_alloc | apply pw_below_drewN | apply below_drew1) | exact HB.out)) hb); clear HB; have HB := n0_; clear n0_; (try clear hb); (try clear hb2); (try clear hk); (try clear hi)))
    go_ret
    exact ⟨by first | rfl | (simp [errW_none, errW_some] <;> rfl) | (simp [*, errW_none, errW_some] <;> rfl), by repeat (first | (with_reducible first | exact HB.out | apply below_alloc | apply pw_below_drewN | apply below_drew1) | exact HB.out)⟩
  · replace c4 := Bool.eq_false_iff.mpr c4
    subst c4
    have H1 : (some false) = some r := by rw [if_neg (show ¬ (false = true) by decide)] at H; exact H
    clear H
    have H := H1
    clear H1
    obtain rfl := Option.some.inj H
    go_enter Tryz.func17, Tryz.ntmps17
    go_wp2_with (first | ((with_reducible refine gate_callee (f := 41) rfl ?_); refine goesL_ (some 10) rfl rfl Tryz.func41 (by kernel_rfl) rfl #[.slice A0 l0.length c0, .int .i64 a1] rfl (by (try simp only [List.map_toArray, List.map_cons, List.map_nil]); first | done | rfl | (simp only [List.length_drop, List.length_take]; rfl)) ?_; (with_reducible refine (span_Has.calls k _ _ l0 a1 false t225 _ ?side1 ?side2 A3.out).mono ?_); (case side1 => repeat (first | exact HR0.out | (with_reducible refine Kd.C_alloc ?_ _) | (with_reducible refine Kd.C_drewN ?_ _) | (with_reducible refine Kd.C_drew ?_))); (case side2 => exact HC0.out); rintro e w6 ⟨rfl, hb⟩; refine ⟨_, rfl, ?_⟩; have n0_ := Aside0.mk (below_step (by repeat (first | (with_reducible first | exact HB.out | apply below_alloc | apply pw_below_drewN | apply below_drew1) | exact HB.out)) hb); clear HB; have HB := n0_; clear n0_; (try clear hb); (try clear hb2); (try clear hk); (try clear hi)))
    go_ret
    exact ⟨by first | rfl | (simp [errW_none, errW_some] <;> rfl) | (simp [*, errW_none, errW_some] <;> rfl), by repeat (first | (with_reducible first | exact HB.out | apply below_alloc | apply pw_below_drewN | apply below_drew1) | exact HB.out)⟩

end Go.Proofs.YthcjocojngochaaGreatDoor.X
