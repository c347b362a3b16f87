-- Written by a program of mine (wip/tools/xprint.py) over the kit's print.py: printed functions and hand-proved ones side by side.
import Derived.Test.YtmpjoaljincclaaDoorXx0
import Derived.Test.YtmpjoaljincclaaDoorXx6
namespace Go.Proofs.YtmpjoaljincclaaDoor.X
open Go.RowKit Go.Proofs.YtmpjoaljincclaaDoorW.PrintWords Go.Proofs.YtmpjoaljincclaaDoorW.PrintLast Go.Proofs.YtmpjoaljincclaaDoorW.PrintMore
attribute [local go_sem] max2_int min2_int max_two min_two max_three min_three max_four min_four   -- for this text's walks alone
set_option linter.unusedVariables false
set_option linter.unusedSimpArgs false

/-! ### cohousinglaw07_LexerErrors: function 8 -/
def cohousinglaw07_LexerErrors.f (a0 : ByteArray) : Option (Bool) := (cohousinglaw07_head.f).bind fun t299 => (if t299 = true then (if (a0.size : Int) > 8100 then (some true) else ((lexer_Lex.f a0).bind fun bt300 => (if bt300.2.1 = 0 then (if bt300.2.2 = 0 then (some true) else (none)) else (if (bt300.1.length : Int) = 0 then (if bt300.2.2 < 0 then (none) else (if bt300.2.2 ≥ (a0.size : Int) then (none) else (if 0 ≤ bt300.2.2 then (if bt300.2.2 ≤ (a0.size : Int) then ((lexer_Lex.f (a0.extract 0 (bt300.2.2 : Int).toNat)).bind fun bt305 => (if bt305.2.1 = 0 then (some true) else (none))) else (none)) else (none)))) else (none))))) else (none))
set_option maxHeartbeats 8000000 in
set_option maxRecDepth 100000 in
theorem cohousinglaw07_LexerErrors.calls (a0 : ByteArray) (r : Bool) (w : World) (h : cohousinglaw07_LexerErrors.f a0 = some r) :
    Calls Tryd.prog 8 #[.string a0] w fun e w' => e = .returned (.bool r) ∧ Below w.heap.size w w' := by
  have HB := Aside0.mk (Below.refl w.heap.size w)
  have H : ((cohousinglaw07_head.f).bind fun t299 => (if t299 = true then (if (a0.size : Int) > 8100 then (some true) else ((lexer_Lex.f a0).bind fun bt300 => (if bt300.2.1 = 0 then (if bt300.2.2 = 0 then (some true) else (none)) else (if (bt300.1.length : Int) = 0 then (if bt300.2.2 < 0 then (none) else (if bt300.2.2 ≥ (a0.size : Int) then (none) else (if 0 ≤ bt300.2.2 then (if bt300.2.2 ≤ (a0.size : Int) then ((lexer_Lex.f (a0.extract 0 (bt300.2.2 : Int).toNat)).bind fun bt305 => (if bt305.2.1 = 0 then (some true) else (none))) else (none)) else (none)))) else (none))))) else (none))) = some r := h
  clear h
  replace H := Option.bind_eq_some_iff.mp H
  obtain ⟨t299, A20, H⟩ := H
  replace H : (if t299 = true then (if (a0.size : Int) > 8100 then (some true) else ((lexer_Lex.f a0).bind fun bt300 => (if bt300.2.1 = 0 then (if bt300.2.2 = 0 then (some true) else (none)) else (if (bt300.1.length : Int) = 0 then (if bt300.2.2 < 0 then (none) else (if bt300.2.2 ≥ (a0.size : Int) then (none) else (if 0 ≤ bt300.2.2 then (if bt300.2.2 ≤ (a0.size : Int) then ((lexer_Lex.f (a0.extract 0 (bt300.2.2 : Int).toNat)).bind fun bt305 => (if bt305.2.1 = 0 then (some true) else (none))) else (none)) else (none)))) else (none))))) else (none)) = some r := H
  have A2 := Aside0.mk A20
  clear A20
  by_cases c3 : t299 = true
  · subst c3
    have H1 : (if (a0.size : Int) > 8100 then (some true) else ((lexer_Lex.f a0).bind fun bt300 => (if bt300.2.1 = 0 then (if bt300.2.2 = 0 then (some true) else (none)) else (if (bt300.1.length : Int) = 0 then (if bt300.2.2 < 0 then (none) else (if bt300.2.2 ≥ (a0.size : Int) then (none) else (if 0 ≤ bt300.2.2 then (if bt300.2.2 ≤ (a0.size : Int) then ((lexer_Lex.f (a0.extract 0 (bt300.2.2 : Int).toNat)).bind fun bt305 => (if bt305.2.1 = 0 then (some true) else (none))) else (none)) else (none)))) else (none))))) = some r := by rw [if_pos rfl] at H; exact H
    clear H
    have H := H1
    clear H1
    by_cases c4 : (a0.size : Int) > 8100
    · rw [if_pos c4] at H
      have c4b0 : decide (8100 < (a0.size : Int)) = true := decide_eq_true c4
      have c4b1 : decide (8100 < a0.size) = true := decide_eq_true (by omega)
      clear c4
      obtain rfl := Option.some.inj H
      go_enter Tryd.func8, Tryd.ntmps8
      go_wp2_with (first | ((with_reducible refine gate_callee (f := 10) rfl ?_); refine goesL_ (some 10) rfl rfl Tryd.func10 (by kernel_rfl) rfl #[] rfl (by (try simp only [List.map_toArray, List.map_cons, List.map_nil]); first | done | rfl | (simp only [List.length_drop, List.length_take]; rfl)) ?_; (with_reducible refine (cohousinglaw07_head.calls  true _ A2.out).mono ?_); rintro e w5 ⟨rfl, hb⟩; refine ⟨_, rfl, ?_⟩; have n0_ := Aside0.mk (below_step (by repeat (first | (with_reducible first | exact HB.out | apply below_alloc | apply pw_below_drewN | apply below_drew1) | exact HB.out)) hb); clear HB; have HB := n0_; clear n0_; (try clear hb); (try clear hb2); (try clear hk); (try clear hi)))
      go_ret
      exact ⟨by first | rfl | (simp [errW_none, errW_some] <;> rfl) | (simp [*, errW_none, errW_some] <;> rfl), by repeat (first | (with_reducible first | exact HB.out | apply below_alloc | apply pw_below_drewN | apply below_drew1) | exact HB.out)⟩
    · rw [if_neg c4] at H
      have c4b0 : decide (8100 < (a0.size : Int)) = false := decide_eq_false c4
      have c4b1 : decide (8100 < a0.size) = false := decide_eq_false (by omega)
      clear c4
      replace H := Option.bind_eq_some_iff.mp H
      obtain ⟨⟨t300, t301, t302⟩, A60, H⟩ := H
      replace H : (if t301 = 0 then (if t302 = 0 then (some true) else (none)) else (if (t300.length : Int) = 0 then (if t302 < 0 then (none) else (if t302 ≥ (a0.size : Int) then (none) else (if 0 ≤ t302 then (if t302 ≤ (a0.size : Int) then ((lexer_Lex.f (a0.extract 0 (t302 : Int).toNat)).bind fun bt305 => (if bt305.2.1 = 0 then (some true) else (none))) else (none)) else (none)))) else (none))) = some r := H
      have A6 := Aside0.mk A60
      clear A60
      by_cases c7 : t301 = 0
      · rw [if_pos c7] at H
        have c7b0 : (t301 == 0) = true := beq_iff_eq.mpr c7
        have c7b1 : (t301 != 0) = false := bne_eq_false_iff_eq.mpr c7
        clear c7
        by_cases c8 : t302 = 0
        · rw [if_pos c8] at H
          have c8b0 : (t302 == 0) = true := beq_iff_eq.mpr c8
          have c8b1 : (t302 != 0) = false := bne_eq_false_iff_eq.mpr c8
          clear c8
          obtain rfl := Option.some.inj H
          go_enter Tryd.func8, Tryd.ntmps8
          go_wp2_with (first | ((with_reducible refine gate_callee (f := 10) rfl ?_); refine goesL_ (some 10) rfl rfl Tryd.func10 (by kernel_rfl) rfl #[] rfl (by (try simp only [List.map_toArray, List.map_cons, List.map_nil]); first | done | rfl | (simp only [List.length_drop, List.length_take]; rfl)) ?_; (with_reducible refine (cohousinglaw07_head.calls  true _ A2.out).mono ?_); rintro e w9 ⟨rfl, hb⟩; refine ⟨_, rfl, ?_⟩; have n0_ := Aside0.mk (below_step (by repeat (first | (with_reducible first | exact HB.out | apply below_alloc | apply pw_below_drewN | apply below_drew1) | exact HB.out)) hb); clear HB; have HB := n0_; clear n0_; (try clear hb); (try clear hb2); (try clear hk); (try clear hi)) | ((with_reducible refine gate_callee (f := 11) rfl ?_); refine goesL_ (some 17) rfl rfl Tryd.func11 (by kernel_rfl) rfl #[.string a0] rfl (by (try simp only [List.map_toArray, List.map_cons, List.map_nil]); first | done | rfl | (simp only [List.length_drop, List.length_take]; rfl)) ?_; (with_reducible refine (lexer_Lex.calls a0 t300 t301 t302 _ A6.out).mono ?_); rintro e w10 ⟨v303, rfl, ho0, hb⟩; refine ⟨_, rfl, ?_⟩; have n0_ := Aside0.mk (Kd.R_lower ho0 (below_size (by repeat (first | (with_reducible first | exact HB.out | apply below_alloc | apply pw_below_drewN | apply below_drew1) | exact HB.out)))); have n1_ := Aside0.mk (below_step (by repeat (first | (with_reducible first | exact HB.out | apply below_alloc | apply pw_below_drewN | apply below_drew1) | exact HB.out)) hb); clear HB; have HO304 := n0_; have HB := n1_; clear n0_ n1_; (try clear hb); (try clear hb2); (try clear hk); (try clear hi); (try clear ho0)))
          go_ret
          exact ⟨by first | rfl | (simp [errW_none, errW_some] <;> rfl) | (simp [*, errW_none, errW_some] <;> rfl), by repeat (first | (with_reducible first | exact HB.out | apply below_alloc | apply pw_below_drewN | apply below_drew1) | exact HB.out)⟩
        · rw [if_neg c8] at H
          exact absurd H (by simp)
      · rw [if_neg c7] at H
        have c7b0 : (t301 == 0) = false := beq_eq_false_iff_ne.mpr c7
        have c7b1 : (t301 != 0) = true := bne_iff_ne.mpr c7
        by_cases c11 : (t300.length : Int) = 0
        · rw [if_pos c11] at H
          have c11b0 : ((t300.length : Int) == 0) = true := beq_iff_eq.mpr c11
          have c11b1 : ((t300.length : Int) != 0) = false := bne_eq_false_iff_eq.mpr c11
          clear c11
          by_cases c12 : t302 < 0
          · rw [if_pos c12] at H
            exact absurd H (by simp)
          · rw [if_neg c12] at H
            have c12b0 : decide (t302 < 0) = false := decide_eq_false c12
            clear c12
            by_cases c13 : t302 ≥ (a0.size : Int)
            · rw [if_pos c13] at H
              exact absurd H (by simp)
            · rw [if_neg c13] at H
              have c13b0 : decide ((a0.size : Int) ≤ t302) = false := decide_eq_false c13
              clear c13
              by_cases c14 : 0 ≤ t302
              · rw [if_pos c14] at H
                have c14b0 := eq_true c14
                have c14b1 : decide (0 ≤ t302) = true := decide_eq_true c14
                clear c14
                by_cases c15 : t302 ≤ (a0.size : Int)
                · rw [if_pos c15] at H
                  have c15b0 := eq_true c15
                  have c15b1 : decide (t302 ≤ (a0.size : Int)) = true := decide_eq_true c15
                  clear c15
                  replace H := Option.bind_eq_some_iff.mp H
                  obtain ⟨⟨t305, t306, t307⟩, A160, H⟩ := H
                  replace H : (if t306 = 0 then (some true) else (none)) = some r := H
                  have A16 := Aside0.mk A160
                  clear A160
                  by_cases c17 : t306 = 0
                  · rw [if_pos c17] at H
                    have c17b0 : (t306 == 0) = true := beq_iff_eq.mpr c17
                    have c17b1 : (t306 != 0) = false := bne_eq_false_iff_eq.mpr c17
                    clear c17
                    obtain rfl := Option.some.inj H
                    go_enter Tryd.func8, Tryd.ntmps8
                    go_wp2_with (first | ((with_reducible refine gate_callee (f := 10) rfl ?_); refine goesL_ (some 10) rfl rfl Tryd.func10 (by kernel_rfl) rfl #[] rfl (by (try simp only [List.map_toArray, List.map_cons, List.map_nil]); first | done | rfl | (simp only [List.length_drop, List.length_take]; rfl)) ?_; (with_reducible refine (cohousinglaw07_head.calls  true _ A2.out).mono ?_); rintro e w18 ⟨rfl, hb⟩; refine ⟨_, rfl, ?_⟩; have n0_ := Aside0.mk (below_step (by repeat (first | (with_reducible first | exact HB.out | apply below_alloc | apply pw_below_drewN | apply below_drew1) | exact HB.out)) hb); clear HB; have HB := n0_; clear n0_; (try clear hb); (try clear hb2); (try clear hk); (try clear hi)) | ((with_reducible refine gate_callee (f := 11) rfl ?_); refine goesL_ (some 17) rfl rfl Tryd.func11 (by kernel_rfl) rfl #[.string a0] rfl (by (try simp only [List.map_toArray, List.map_cons, List.map_nil]); first | done | rfl | (simp only [List.length_drop, List.length_take]; rfl)) ?_; (with_reducible refine (lexer_Lex.calls a0 t300 t301 t302 _ A6.out).mono ?_); rintro e w19 ⟨v303, rfl, ho0, hb⟩; refine ⟨_, rfl, ?_⟩; have n0_ := Aside0.mk (Kd.R_lower ho0 (below_size (by repeat (first | (with_reducible first | exact HB.out | apply below_alloc | apply pw_below_drewN | apply below_drew1) | exact HB.out)))); have n1_ := Aside0.mk (below_step (by repeat (first | (with_reducible first | exact HB.out | apply below_alloc | apply pw_below_drewN | apply below_drew1) | exact HB.out)) hb); clear HB; have HO304 := n0_; have HB := n1_; clear n0_ n1_; (try clear hb); (try clear hb2); (try clear hk); (try clear hi); (try clear ho0); obtain ⟨Ao20, co20, eo20⟩ := Kd.R_slice HO304.out; subst eo20) | ((with_reducible refine gate_callee (f := 11) rfl ?_); refine goesL_ (some 45) rfl rfl Tryd.func11 (by kernel_rfl) rfl #[.string (a0.extract 0 (t302 : Int).toNat)] rfl (by (try simp only [List.map_toArray, List.map_cons, List.map_nil]); first | done | rfl | (simp only [List.length_drop, List.length_take]; rfl)) ?_; (with_reducible refine (lexer_Lex.calls (a0.extract 0 (t302 : Int).toNat) t305 t306 t307 _ A16.out).mono ?_); rintro e w21 ⟨v308, rfl, ho0, hb⟩; refine ⟨_, rfl, ?_⟩; have n0_ := Aside0.mk (Kd.R_elder' (by (with_reducible repeat (first | apply Kd.R_alloc | apply Kd.R_drewN | apply Kd.R_drew)); exact HO304.out) (Kd.R_base ho0) hb); have n1_ := Aside0.mk (Kd.R_lower (Kd.R_new' ho0 (Kd.R_lt (by (with_reducible repeat (first | apply Kd.R_alloc | apply Kd.R_drewN | apply Kd.R_drew)); exact HO304.out))) (below_size (by repeat (first | (with_reducible first | exact HB.out | apply below_alloc | apply pw_below_drewN | apply below_drew1) | exact HB.out)))); have n2_ := Aside0.mk (below_step (by repeat (first | (with_reducible first | exact HB.out | apply below_alloc | apply pw_below_drewN | apply below_drew1) | exact HB.out)) hb); clear HO304; clear HB; have HO304 := n0_; have HO309 := n1_; have HB := n2_; clear n0_ n1_ n2_; (try clear hb); (try clear hb2); (try clear hk); (try clear hi); (try clear ho0)))
                    go_ret
                    exact ⟨by first | rfl | (simp [errW_none, errW_some] <;> rfl) | (simp [*, errW_none, errW_some] <;> rfl), by repeat (first | (with_reducible first | exact HB.out | apply below_alloc | apply pw_below_drewN | apply below_drew1) | exact HB.out)⟩
                  · rw [if_neg c17] at H
                    exact absurd H (by simp)
                · rw [if_neg c15] at H
                  exact absurd H (by simp)
              · rw [if_neg c14] at H
                exact absurd H (by simp)
        · rw [if_neg c11] at H
          exact absurd H (by simp)
  · replace c3 := Bool.eq_false_iff.mpr c3
    subst c3
    have H1 : (none) = some r := by rw [if_neg (show ¬ (false = true) by decide)] at H; exact H
    clear H
    have H := H1
    clear H1
    exact absurd H (by simp)

-- NOT PRINTED: function 9 (cohousinglaw07_LexerNumbers)

end Go.Proofs.YtmpjoaljincclaaDoor.X
