-- Written by a program of mine (wip/tools/xprint.py) over the kit's print.py: printed functions and hand-proved ones side by side.
import Derived.Test.YtcbhaoaameiacaaDoorXx0
import Derived.Test.YtcbhaoaameiacaaDoorXx4
import Derived.Test.YtcbhaoaameiacaaDoorXx7
namespace Go.Proofs.YtcbhaoaameiacaaDoor.X
open Go.RowKit Go.Proofs.YtcbhaoaameiacaaDoorW.PrintWords Go.Proofs.YtcbhaoaameiacaaDoorW.PrintLast Go.Proofs.YtcbhaoaameiacaaDoorW.PrintMore
attribute [local go_sem] max2_int min2_int max_two min_two max_three min_three max_four min_four   -- for this text's walks alone
set_option linter.unusedVariables false
set_option linter.unusedSimpArgs false

/-! ### cohousinglaw02_MoneyTexts: function 9 -/
def cohousinglaw02_MoneyTexts.j0 : Nat → ByteArray → Bool → Option (Bool)
  | 0, _, _ => none
  | k + 1, x1, x5 => (money_Parse.f x1).bind fun bt220 => (if bt220.2 = 0 then ((money_Text.f bt220.1).bind fun bt222 => (if x5 = true then (if bt222.2 = 0 then (if bt222.1.toList = x1.toList then (some true) else (none)) else (none)) else (none))) else (if x5 = true then (if bt220.2 = 8 then (if bt220.1 = 0 then (some true) else (none)) else (if bt220.2 = 3 then (if bt220.1 = 0 then (some true) else (none)) else (none))) else (none)))
def cohousinglaw02_MoneyTexts.f (k : Nat) (a0 : Int) (a1 : ByteArray) : Option (Bool) := (cohousinglaw02_head.f k).bind fun t214 => (if t214 = true then (if 0 ≤ (mn (a1.size : Int) 100) then (if (mn (a1.size : Int) 100) ≤ (a1.size : Int) then ((money_Text.f a0).bind fun bt215 => (if bt215.2 = 0 then ((money_Parse.f bt215.1).bind fun bt217 => (if bt217.2 = 0 then (if bt217.1 = a0 then (cohousinglaw02_MoneyTexts.j0 k (a1.extract 0 ((mn (a1.size : Int) 100) : Int).toNat) true) else (none)) else (none))) else (if bt215.2 = 1 then ((cohousingref02_Amount.f a0).bind fun t219 => (if t219 = true then (none) else (cohousinglaw02_MoneyTexts.j0 k (a1.extract 0 ((mn (a1.size : Int) 100) : Int).toNat) true))) else (none)))) else (none)) else (none)) else (none))
theorem cohousinglaw02_MoneyTexts.mono_l : ∀ k, (∀ y0 y1, LeO (cohousinglaw02_MoneyTexts.j0 k y0 y1) (cohousinglaw02_MoneyTexts.j0 (k + 1) y0 y1))
  | 0 => fun _ _ r h => by simp [cohousinglaw02_MoneyTexts.j0] at h
  | k + 1 => by
    have ih0 := cohousinglaw02_MoneyTexts.mono_l k
    · intro y0 y1
      unfold cohousinglaw02_MoneyTexts.j0
      repeat' first
      | (with_reducible exact ih0 _ _)
      | (with_reducible exact cohousinglaw02_head.mono _)
      | (with_reducible exact LeO.refl _)
      | (with_reducible exact LeO.none _)
      | (with_reducible refine LeO.ite ?_ ?_)
      | (with_reducible refine LeO.bind ?_ (fun _ => ?_))
      | exact ih0 _ _
      | exact cohousinglaw02_head.mono _
      | exact LeO.none _
      | refine LeO.ite ?_ ?_
      | refine LeO.bind ?_ (fun _ => ?_)
theorem cohousinglaw02_MoneyTexts.mono : ∀ a0 a1 k, LeO (cohousinglaw02_MoneyTexts.f k a0 a1) (cohousinglaw02_MoneyTexts.f (k + 1) a0 a1) := by
  intro a0 a1 k
  have ih0 := cohousinglaw02_MoneyTexts.mono_l k
  unfold cohousinglaw02_MoneyTexts.f
  repeat' first
      | (with_reducible exact ih0 _ _)
      | (with_reducible exact cohousinglaw02_head.mono _)
      | (with_reducible exact LeO.refl _)
      | (with_reducible exact LeO.none _)
      | (with_reducible refine LeO.ite ?_ ?_)
      | (with_reducible refine LeO.bind ?_ (fun _ => ?_))
      | exact ih0 _ _
      | exact cohousinglaw02_head.mono _
      | exact LeO.none _
      | refine LeO.ite ?_ ?_
      | refine LeO.bind ?_ (fun _ => ?_)
set_option maxHeartbeats 8000000 in
set_option maxRecDepth 100000 in
theorem cohousinglaw02_MoneyTexts.calls (k : Nat) (a0 : Int) (a1 : ByteArray) (r : Bool) (w : World) (hG : GL w) (h : cohousinglaw02_MoneyTexts.f k a0 a1 = some r) :
    Calls Tryd.prog 9 #[.int .i64 a0, .string a1] w fun e w' => e = .returned (.bool r) ∧ Below w.heap.size w w' := by
  have HG := Aside0.mk hG
  clear hG
  have HB := Aside0.mk (Below.refl w.heap.size w)
  have H : ((cohousinglaw02_head.f k).bind fun t214 => (if t214 = true then (if 0 ≤ (mn (a1.size : Int) 100) then (if (mn (a1.size : Int) 100) ≤ (a1.size : Int) then ((money_Text.f a0).bind fun bt215 => (if bt215.2 = 0 then ((money_Parse.f bt215.1).bind fun bt217 => (if bt217.2 = 0 then (if bt217.1 = a0 then (cohousinglaw02_MoneyTexts.j0 k (a1.extract 0 ((mn (a1.size : Int) 100) : Int).toNat) true) else (none)) else (none))) else (if bt215.2 = 1 then ((cohousingref02_Amount.f a0).bind fun t219 => (if t219 = true then (none) else (cohousinglaw02_MoneyTexts.j0 k (a1.extract 0 ((mn (a1.size : Int) 100) : Int).toNat) true))) else (none)))) else (none)) else (none)) else (none))) = some r := h
  clear h
  replace H := Option.bind_eq_some_iff.mp H
  obtain ⟨t214, A30, H⟩ := H
  replace H : (if t214 = true then (if 0 ≤ (mn (a1.size : Int) 100) then (if (mn (a1.size : Int) 100) ≤ (a1.size : Int) then ((money_Text.f a0).bind fun bt215 => (if bt215.2 = 0 then ((money_Parse.f bt215.1).bind fun bt217 => (if bt217.2 = 0 then (if bt217.1 = a0 then (cohousinglaw02_MoneyTexts.j0 k (a1.extract 0 ((mn (a1.size : Int) 100) : Int).toNat) true) else (none)) else (none))) else (if bt215.2 = 1 then ((cohousingref02_Amount.f a0).bind fun t219 => (if t219 = true then (none) else (cohousinglaw02_MoneyTexts.j0 k (a1.extract 0 ((mn (a1.size : Int) 100) : Int).toNat) true))) else (none)))) else (none)) else (none)) else (none)) = some r := H
  have A3 := Aside0.mk A30
  clear A30
  by_cases c4 : t214 = true
  · subst c4
    have H1 : (if 0 ≤ (mn (a1.size : Int) 100) then (if (mn (a1.size : Int) 100) ≤ (a1.size : Int) then ((money_Text.f a0).bind fun bt215 => (if bt215.2 = 0 then ((money_Parse.f bt215.1).bind fun bt217 => (if bt217.2 = 0 then (if bt217.1 = a0 then (cohousinglaw02_MoneyTexts.j0 k (a1.extract 0 ((mn (a1.size : Int) 100) : Int).toNat) true) else (none)) else (none))) else (if bt215.2 = 1 then ((cohousingref02_Amount.f a0).bind fun t219 => (if t219 = true then (none) else (cohousinglaw02_MoneyTexts.j0 k (a1.extract 0 ((mn (a1.size : Int) 100) : Int).toNat) true))) else (none)))) else (none)) else (none)) = some r := by rw [if_pos rfl] at H; exact H
    clear H
    have H := H1
    clear H1
    obtain ⟨ji5, hji5⟩ : ∃ j_ : Int, (mn (a1.size : Int) 100) = j_ := ⟨_, rfl⟩
    replace H : (if 0 ≤ (ji5) then (if (ji5) ≤ (a1.size : Int) then ((money_Text.f a0).bind fun bt215 => (if bt215.2 = 0 then ((money_Parse.f bt215.1).bind fun bt217 => (if bt217.2 = 0 then (if bt217.1 = a0 then (cohousinglaw02_MoneyTexts.j0 k (a1.extract 0 ((ji5) : Int).toNat) true) else (none)) else (none))) else (if bt215.2 = 1 then ((cohousingref02_Amount.f a0).bind fun t219 => (if t219 = true then (none) else (cohousinglaw02_MoneyTexts.j0 k (a1.extract 0 ((ji5) : Int).toNat) true))) else (none)))) else (none)) else (none)) = some r := by first | (rw [hji5] at H; exact H) | (simp only [hji5] at H ⊢; exact H)
    (try rw [hji5] at A3)
    (try (have hji5h : ji5 ≤ 100 := by (rw [← hji5]; unfold mn; (repeat' split) <;> omega)))
    (try (have hji5g : ji5 ≤ 64 := by omega))
    (try (have hji5l : 0 ≤ ji5 := by (rw [← hji5]; unfold mn; (repeat' split) <;> omega)))
    (try (have hji5m : 0 ≤ ji5 := by omega))
    have hji5_ : (if 100 < (a1.size : Int) then 100 else (a1.size : Int)) = ji5 := hji5
    by_cases c6 : 0 ≤ (ji5)
    · rw [if_pos c6] at H
      have c6b0 := eq_true c6
      have c6b1 : decide (0 ≤ (ji5)) = true := decide_eq_true c6
      clear c6
      by_cases c7 : (ji5) ≤ (a1.size : Int)
      · rw [if_pos c7] at H
        have c7b0 := eq_true c7
        have c7b1 : decide ((ji5) ≤ (a1.size : Int)) = true := decide_eq_true c7
        clear c7
        replace H := Option.bind_eq_some_iff.mp H
        obtain ⟨⟨t215, t216⟩, A80, H⟩ := H
        replace H : (if t216 = 0 then ((money_Parse.f t215).bind fun bt217 => (if bt217.2 = 0 then (if bt217.1 = a0 then (cohousinglaw02_MoneyTexts.j0 k (a1.extract 0 ((ji5) : Int).toNat) true) else (none)) else (none))) else (if t216 = 1 then ((cohousingref02_Amount.f a0).bind fun t219 => (if t219 = true then (none) else (cohousinglaw02_MoneyTexts.j0 k (a1.extract 0 ((ji5) : Int).toNat) true))) else (none))) = some r := H
        have A8 := Aside0.mk A80
        clear A80
        have HC9 := Aside0.mk H
        clear H
        go_enter Tryd.func9, Tryd.ntmps9
        go_upto_if 26 with (first | ((with_reducible refine gate_callee (f := 10) rfl ?_); refine goesL_ (some 14) rfl rfl Tryd.func10 (by kernel_rfl) rfl #[] rfl (by (try simp only [List.map_toArray, List.map_cons, List.map_nil]); first | done | rfl | (simp only [List.length_drop, List.length_take]; rfl)) ?_; (with_reducible refine (cohousinglaw02_head.calls k  true _ ?side1 A3.out).mono ?_); (case side1 => exact GL.below HG.out (by repeat (first | (with_reducible first | exact HB.out | apply below_alloc | apply pw_below_drewN | apply below_drew1) | exact HB.out))); rintro e w10 ⟨rfl, hb⟩; refine ⟨_, rfl, ?_⟩; have n0_ := Aside0.mk (below_step (by repeat (first | (with_reducible first | exact HB.out | apply below_alloc | apply pw_below_drewN | apply below_drew1) | exact HB.out)) hb); clear HB; have HB := n0_; clear n0_; (try clear hb); (try clear hb2); (try clear hk); (try clear hi)) | ((with_reducible refine gate_callee (f := 23) rfl ?_); refine goesL_ (some 22) rfl rfl Tryd.func23 (by kernel_rfl) rfl #[.int .i64 a0] rfl (by (try simp only [List.map_toArray, List.map_cons, List.map_nil]); first | done | rfl | (simp only [List.length_drop, List.length_take]; rfl)) ?_; (with_reducible refine (money_Text.calls a0 t215 t216 _ ?side1 A8.out).mono ?_); (case side1 => exact GL.below HG.out (by repeat (first | (with_reducible first | exact HB.out | apply below_alloc | apply pw_below_drewN | apply below_drew1) | exact HB.out))); rintro e w11 ⟨rfl, hb⟩; refine ⟨_, rfl, ?_⟩; have n0_ := Aside0.mk (below_step (by repeat (first | (with_reducible first | exact HB.out | apply below_alloc | apply pw_below_drewN | apply below_drew1) | exact HB.out)) hb); clear HB; have HB := n0_; clear n0_; (try clear hb); (try clear hb2); (try clear hk); (try clear hi)))
        (try simp only [Act.put, List.setIfInBounds_toArray, List.set_cons_zero, List.set_cons_succ])
        go_cut [5] (fun v5 wc => ∃ (kq : Nat) (x5_8 : Bool), v5 = .bool x5_8 ∧ Aside0 (cohousinglaw02_MoneyTexts.j0 kq (a1.extract 0 ((ji5) : Int).toNat) x5_8 = some r) ∧ Aside0 (kq ≤ k) ∧ Aside0 (Below w.heap.size w wc))
        case first =>
          have H := HC9.out
          clear HC9
          by_cases c12 : t216 = 0
          · rw [if_pos c12] at H
            have c12b0 : (t216 == 0) = true := beq_iff_eq.mpr c12
            have c12b1 : (t216 != 0) = false := bne_eq_false_iff_eq.mpr c12
            clear c12
            (first | rw [c12b0] | (simp only [i64_w, i32_w]; rw [c12b0]) | skip)
            replace H := Option.bind_eq_some_iff.mp H
            obtain ⟨⟨t217, t218⟩, A130, H⟩ := H
            replace H : (if t218 = 0 then (if t217 = a0 then (cohousinglaw02_MoneyTexts.j0 k (a1.extract 0 ((ji5) : Int).toNat) true) else (none)) else (none)) = some r := H
            have A13 := Aside0.mk A130
            clear A130
            by_cases c14 : t218 = 0
            · rw [if_pos c14] at H
              have c14b0 : (t218 == 0) = true := beq_iff_eq.mpr c14
              have c14b1 : (t218 != 0) = false := bne_eq_false_iff_eq.mpr c14
              clear c14
              by_cases c15 : t217 = a0
              · rw [if_pos c15] at H
                have c15b0 : (t217 == a0) = true := beq_iff_eq.mpr c15
                have c15b1 : (t217 != a0) = false := bne_eq_false_iff_eq.mpr c15
                clear c15
                have H' := Aside0.mk H
                clear H
                go_wp2_with (first | ((with_reducible refine gate_callee (f := 25) rfl ?_); refine goesL_ (some 29) rfl rfl Tryd.func25 (by kernel_rfl) rfl #[.string t215] rfl (by (try simp only [List.map_toArray, List.map_cons, List.map_nil]); first | done | rfl | (simp only [List.length_drop, List.length_take]; rfl)) ?_; (with_reducible refine (money_Parse.calls t215 t217 t218 _ A13.out).mono ?_); rintro e w16 ⟨rfl, hb⟩; refine ⟨_, rfl, ?_⟩; have n0_ := Aside0.mk (below_step (by repeat (first | (with_reducible first | exact HB.out | apply below_alloc | apply pw_below_drewN | apply below_drew1) | exact HB.out)) hb); clear HB; have HB := n0_; clear n0_; (try clear hb); (try clear hb2); (try clear hk); (try clear hi)))
                go_meet
                case rel => exact ⟨_, (true), (by first | rfl | (simp; done) | (simp [*]; done)), H', ⟨by first | omega | exact Nat.le_refl _⟩, ⟨by repeat (first | (with_reducible first | exact HB.out | apply below_alloc | apply pw_below_drewN | apply below_drew1) | exact HB.out)⟩⟩
              · rw [if_neg c15] at H
                exact absurd H (by simp)
            · rw [if_neg c14] at H
              exact absurd H (by simp)
          · rw [if_neg c12] at H
            have c12b0 : (t216 == 0) = false := beq_eq_false_iff_ne.mpr c12
            have c12b1 : (t216 != 0) = true := bne_iff_ne.mpr c12
            (first | rw [c12b0] | (simp only [i64_w, i32_w]; rw [c12b0]) | skip)
            by_cases c17 : t216 = 1
            · rw [if_pos c17] at H
              have c17b0 : (t216 == 1) = true := beq_iff_eq.mpr c17
              have c17b1 : (t216 != 1) = false := bne_eq_false_iff_eq.mpr c17
              clear c17
              replace H := Option.bind_eq_some_iff.mp H
              obtain ⟨t219, A180, H⟩ := H
              replace H : (if t219 = true then (none) else (cohousinglaw02_MoneyTexts.j0 k (a1.extract 0 ((ji5) : Int).toNat) true)) = some r := H
              have A18 := Aside0.mk A180
              clear A180
              by_cases c19 : t219 = true
              · subst c19
                have H1 : (none) = some r := by rw [if_pos rfl] at H; exact H
                clear H
                have H := H1
                clear H1
                exact absurd H (by simp)
              · replace c19 := Bool.eq_false_iff.mpr c19
                subst c19
                have H1 : (cohousinglaw02_MoneyTexts.j0 k (a1.extract 0 ((ji5) : Int).toNat) true) = some r := by rw [if_neg (show ¬ (false = true) by decide)] at H; exact H
                clear H
                have H := H1
                clear H1
                have H' := Aside0.mk H
                clear H
                go_wp2_with (first | (go_at_call 12; (with_reducible refine (cohousingref02_Amount.calls a0 false _ A18.out).mono ?_); rintro e w' ⟨rfl, ⟨nd, rfl⟩⟩))
                go_meet
                case rel => exact ⟨_, (true), (by first | rfl | (simp; done) | (simp [*]; done)), H', ⟨by first | omega | exact Nat.le_refl _⟩, ⟨by repeat (first | (with_reducible first | exact HB.out | apply below_alloc | apply pw_below_drewN | apply below_drew1) | exact HB.out)⟩⟩
            · rw [if_neg c17] at H
              exact absurd H (by simp)
        case rest =>
          clear HC9
          try clear c1
          try clear c2
          try clear p2
          try clear c4
          try clear c6
          try clear c6b0
          try clear c6b1
          try clear c7
          try clear c7b0
          try clear c7b1
          try clear c9
          try clear c10
          try clear c12
          try clear c12b0
          try clear c12b1
          try clear c14
          try clear c14b0
          try clear c14b1
          try clear c15
          try clear c15b0
          try clear c15b1
          try clear c17
          try clear c17b0
          try clear c17b1
          try clear c19
          obtain ⟨kq, x5_8, rfl, HA, HJ8, HB⟩ := hcut
          cases kq with
          | zero => exact absurd HA.out (by simp [cohousinglaw02_MoneyTexts.j0])
          | succ kj8 =>
            have H := HA.out
            clear HA
            simp only [cohousinglaw02_MoneyTexts.j0] at H
            replace H := Option.bind_eq_some_iff.mp H
            obtain ⟨⟨t220, t221⟩, A200, H⟩ := H
            replace H : (if t221 = 0 then ((money_Text.f t220).bind fun bt222 => (if x5_8 = true then (if bt222.2 = 0 then (if bt222.1.toList = (a1.extract 0 ((ji5) : Int).toNat).toList then (some true) else (none)) else (none)) else (none))) else (if x5_8 = true then (if t221 = 8 then (if t220 = 0 then (some true) else (none)) else (if t221 = 3 then (if t220 = 0 then (some true) else (none)) else (none))) else (none))) = some r := H
            have A20 := Aside0.mk A200
            clear A200
            by_cases c21 : t221 = 0
            · rw [if_pos c21] at H
              have c21b0 : (t221 == 0) = true := beq_iff_eq.mpr c21
              have c21b1 : (t221 != 0) = false := bne_eq_false_iff_eq.mpr c21
              clear c21
              replace H := Option.bind_eq_some_iff.mp H
              obtain ⟨⟨t222, t223⟩, A220, H⟩ := H
              replace H : (if x5_8 = true then (if t223 = 0 then (if t222.toList = (a1.extract 0 ((ji5) : Int).toNat).toList then (some true) else (none)) else (none)) else (none)) = some r := H
              have A22 := Aside0.mk A220
              clear A220
              by_cases c23 : x5_8 = true
              · subst c23
                have H1 : (if t223 = 0 then (if t222.toList = (a1.extract 0 ((ji5) : Int).toNat).toList then (some true) else (none)) else (none)) = some r := by rw [if_pos rfl] at H; exact H
                clear H
                have H := H1
                clear H1
                by_cases c24 : t223 = 0
                · rw [if_pos c24] at H
                  have c24b0 : (t223 == 0) = true := beq_iff_eq.mpr c24
                  have c24b1 : (t223 != 0) = false := bne_eq_false_iff_eq.mpr c24
                  clear c24
                  by_cases c25 : t222.toList = (a1.extract 0 ((ji5) : Int).toNat).toList
                  · rw [if_pos c25] at H
                    have c25b0 : (t222.toList == (a1.extract 0 ((ji5) : Int).toNat).toList) = true := beq_iff_eq.mpr c25
                    have c25b1 : (t222.toList != (a1.extract 0 ((ji5) : Int).toNat).toList) = false := bne_eq_false_iff_eq.mpr c25
                    clear c25
                    obtain rfl := Option.some.inj H
                    go_wp2_with (first | ((with_reducible refine gate_callee (f := 25) rfl ?_); refine goesL_ (some 54) rfl rfl Tryd.func25 (by kernel_rfl) rfl #[.string (a1.extract 0 ((ji5) : Int).toNat)] rfl (by (try simp only [List.map_toArray, List.map_cons, List.map_nil]); first | done | (simp only [hji5]; rfl) | rfl | (simp only [List.length_drop, List.length_take]; rfl)) ?_; (with_reducible refine (money_Parse.calls (a1.extract 0 ((ji5) : Int).toNat) t220 t221 _ A20.out).mono ?_); rintro e w26 ⟨rfl, hb⟩; refine ⟨_, rfl, ?_⟩; have n0_ := Aside0.mk (below_step (by repeat (first | (with_reducible first | exact HB.out | apply below_alloc | apply pw_below_drewN | apply below_drew1) | exact HB.out)) hb); clear HB; have HB := n0_; clear n0_; (try clear hb); (try clear hb2); (try clear hk); (try clear hi)) | ((with_reducible refine gate_callee (f := 23) rfl ?_); refine goesL_ (some 74) rfl rfl Tryd.func23 (by kernel_rfl) rfl #[.int .i64 t220] rfl (by (try simp only [List.map_toArray, List.map_cons, List.map_nil]); first | done | rfl | (simp only [List.length_drop, List.length_take]; rfl)) ?_; (with_reducible refine (money_Text.calls t220 t222 t223 _ ?side1 A22.out).mono ?_); (case side1 => exact GL.below HG.out (by repeat (first | (with_reducible first | exact HB.out | apply below_alloc | apply pw_below_drewN | apply below_drew1) | exact HB.out))); rintro e w27 ⟨rfl, hb⟩; refine ⟨_, rfl, ?_⟩; have n0_ := Aside0.mk (below_step (by repeat (first | (with_reducible first | exact HB.out | apply below_alloc | apply pw_below_drewN | apply below_drew1) | exact HB.out)) hb); clear HB; have HB := n0_; clear n0_; (try clear hb); (try clear hb2); (try clear hk); (try clear hi)))
                    go_ret
                    exact ⟨by first | rfl | (simp [errW_none, errW_some] <;> rfl) | (simp only [← hji5]; first | rfl | (simp [errW_none, errW_some] <;> rfl)) | (simp [*, errW_none, errW_some] <;> rfl), by repeat (first | (with_reducible first | exact HB.out | apply below_alloc | apply pw_below_drewN | apply below_drew1) | exact HB.out)⟩
                  · rw [if_neg c25] at H
                    exact absurd H (by simp)
                · rw [if_neg c24] at H
                  exact absurd H (by simp)
              · replace c23 := Bool.eq_false_iff.mpr c23
                subst c23
                have H1 : (none) = some r := by rw [if_neg (show ¬ (false = true) by decide)] at H; exact H
                clear H
                have H := H1
                clear H1
                exact absurd H (by simp)
            · rw [if_neg c21] at H
              have c21b0 : (t221 == 0) = false := beq_eq_false_iff_ne.mpr c21
              have c21b1 : (t221 != 0) = true := bne_iff_ne.mpr c21
              by_cases c28 : x5_8 = true
              · subst c28
                have H1 : (if t221 = 8 then (if t220 = 0 then (some true) else (none)) else (if t221 = 3 then (if t220 = 0 then (some true) else (none)) else (none))) = some r := by rw [if_pos rfl] at H; exact H
                clear H
                have H := H1
                clear H1
                by_cases c29 : t221 = 8
                · rw [if_pos c29] at H
                  have c29b0 : (t221 == 8) = true := beq_iff_eq.mpr c29
                  have c29b1 : (t221 != 8) = false := bne_eq_false_iff_eq.mpr c29
                  clear c29
                  by_cases c30 : t220 = 0
                  · rw [if_pos c30] at H
                    have c30b0 : (t220 == 0) = true := beq_iff_eq.mpr c30
                    have c30b1 : (t220 != 0) = false := bne_eq_false_iff_eq.mpr c30
                    clear c30
                    obtain rfl := Option.some.inj H
                    go_wp2_with (first | ((with_reducible refine gate_callee (f := 25) rfl ?_); refine goesL_ (some 54) rfl rfl Tryd.func25 (by kernel_rfl) rfl #[.string (a1.extract 0 ((ji5) : Int).toNat)] rfl (by (try simp only [List.map_toArray, List.map_cons, List.map_nil]); first | done | (simp only [hji5]; rfl) | rfl | (simp only [List.length_drop, List.length_take]; rfl)) ?_; (with_reducible refine (money_Parse.calls (a1.extract 0 ((ji5) : Int).toNat) t220 t221 _ A20.out).mono ?_); rintro e w31 ⟨rfl, hb⟩; refine ⟨_, rfl, ?_⟩; have n0_ := Aside0.mk (below_step (by repeat (first | (with_reducible first | exact HB.out | apply below_alloc | apply pw_below_drewN | apply below_drew1) | exact HB.out)) hb); clear HB; have HB := n0_; clear n0_; (try clear hb); (try clear hb2); (try clear hk); (try clear hi)))
                    go_ret
                    exact ⟨by first | rfl | (simp [errW_none, errW_some] <;> rfl) | (simp only [← hji5]; first | rfl | (simp [errW_none, errW_some] <;> rfl)) | (simp [*, errW_none, errW_some] <;> rfl), by repeat (first | (with_reducible first | exact HB.out | apply below_alloc | apply pw_below_drewN | apply below_drew1) | exact HB.out)⟩
                  · rw [if_neg c30] at H
                    exact absurd H (by simp)
                · rw [if_neg c29] at H
                  have c29b0 : (t221 == 8) = false := beq_eq_false_iff_ne.mpr c29
                  have c29b1 : (t221 != 8) = true := bne_iff_ne.mpr c29
                  by_cases c32 : t221 = 3
                  · rw [if_pos c32] at H
                    have c32b0 : (t221 == 3) = true := beq_iff_eq.mpr c32
                    have c32b1 : (t221 != 3) = false := bne_eq_false_iff_eq.mpr c32
                    clear c32
                    by_cases c33 : t220 = 0
                    · rw [if_pos c33] at H
                      have c33b0 : (t220 == 0) = true := beq_iff_eq.mpr c33
                      have c33b1 : (t220 != 0) = false := bne_eq_false_iff_eq.mpr c33
                      clear c33
                      obtain rfl := Option.some.inj H
                      go_wp2_with (first | ((with_reducible refine gate_callee (f := 25) rfl ?_); refine goesL_ (some 54) rfl rfl Tryd.func25 (by kernel_rfl) rfl #[.string (a1.extract 0 ((ji5) : Int).toNat)] rfl (by (try simp only [List.map_toArray, List.map_cons, List.map_nil]); first | done | (simp only [hji5]; rfl) | rfl | (simp only [List.length_drop, List.length_take]; rfl)) ?_; (with_reducible refine (money_Parse.calls (a1.extract 0 ((ji5) : Int).toNat) t220 t221 _ A20.out).mono ?_); rintro e w34 ⟨rfl, hb⟩; refine ⟨_, rfl, ?_⟩; have n0_ := Aside0.mk (below_step (by repeat (first | (with_reducible first | exact HB.out | apply below_alloc | apply pw_below_drewN | apply below_drew1) | exact HB.out)) hb); clear HB; have HB := n0_; clear n0_; (try clear hb); (try clear hb2); (try clear hk); (try clear hi)))
                      go_ret
                      exact ⟨by first | rfl | (simp [errW_none, errW_some] <;> rfl) | (simp only [← hji5]; first | rfl | (simp [errW_none, errW_some] <;> rfl)) | (simp [*, errW_none, errW_some] <;> rfl), by repeat (first | (with_reducible first | exact HB.out | apply below_alloc | apply pw_below_drewN | apply below_drew1) | exact HB.out)⟩
                    · rw [if_neg c33] at H
                      exact absurd H (by simp)
                  · rw [if_neg c32] at H
                    exact absurd H (by simp)
              · replace c28 := Bool.eq_false_iff.mpr c28
                subst c28
                have H1 : (none) = some r := by rw [if_neg (show ¬ (false = true) by decide)] at H; exact H
                clear H
                have H := H1
                clear H1
                exact absurd H (by simp)
      · rw [if_neg c7] at H
        exact absurd H (by simp)
    · rw [if_neg c6] at H
      exact absurd H (by simp)
  · replace c4 := Bool.eq_false_iff.mpr c4
    subst c4
    have H1 : (none) = some r := by rw [if_neg (show ¬ (false = true) by decide)] at H; exact H
    clear H
    have H := H1
    clear H1
    exact absurd H (by simp)

end Go.Proofs.YtcbhaoaameiacaaDoor.X
