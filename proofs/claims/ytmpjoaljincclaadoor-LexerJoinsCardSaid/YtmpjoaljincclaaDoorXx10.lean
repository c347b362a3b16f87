-- Written by a program of mine (wip/tools/xprint.py) over the kit's print.py: printed functions and hand-proved ones side by side.
import Derived.Test.YtmpjoaljincclaaDoorXx0
import Derived.Test.YtmpjoaljincclaaDoorXx6
import Derived.Test.YtmpjoaljincclaaDoorXx9
namespace Go.Proofs.YtmpjoaljincclaaDoor.X
open Go.RowKit Go.Proofs.YtmpjoaljincclaaDoorW.PrintWords Go.Proofs.YtmpjoaljincclaaDoorW.PrintLast Go.Proofs.YtmpjoaljincclaaDoorW.PrintMore
attribute [local go_sem] max2_int min2_int max_two min_two max_three min_three max_four min_four   -- for this text's walks alone
set_option linter.unusedVariables false
set_option linter.unusedSimpArgs false

/-! ### cohousinglaw07_LexerMatchesReference: function 3 -/
def cohousinglaw07_LexerMatchesReference.f (k : Nat) (a0 : ByteArray) : Option (Bool) := (cohousinglaw07_head.f).bind fun t166 => (if t166 = true then (if (a0.size : Int) > 8100 then (some true) else ((lexer_Lex.f a0).bind fun bt167 => ((cohousingref07_Lex.f k a0).bind fun bt172 => ((cohousingref07_Same.f bt167.1 bt172.1 0).bind fun t177 => (if t177 = true then (if bt167.2.1 = bt172.2.1 then (if bt167.2.2 = bt172.2.2 then (some true) else (none)) else (none)) else (none)))))) else (none))
theorem cohousinglaw07_LexerMatchesReference.mono : ∀ a0 k, LeO (cohousinglaw07_LexerMatchesReference.f k a0) (cohousinglaw07_LexerMatchesReference.f (k + 1) a0) := by
  intro a0 k
  unfold cohousinglaw07_LexerMatchesReference.f
  repeat' first
      | (with_reducible exact cohousingref07_Lex.mono _ _)
      | (with_reducible exact LeO.refl _)
      | (with_reducible exact LeO.none _)
      | (with_reducible refine LeO.ite ?_ ?_)
      | (with_reducible refine LeO.bind ?_ (fun _ => ?_))
      | exact cohousingref07_Lex.mono _ _
      | exact LeO.none _
      | refine LeO.ite ?_ ?_
      | refine LeO.bind ?_ (fun _ => ?_)
set_option maxHeartbeats 8000000 in
set_option maxRecDepth 100000 in
theorem cohousinglaw07_LexerMatchesReference.calls (k : Nat) (a0 : ByteArray) (r : Bool) (w : World) (h : cohousinglaw07_LexerMatchesReference.f k a0 = some r) :
    Calls Tryd.prog 3 #[.string a0] w fun e w' => e = .returned (.bool r) ∧ Below w.heap.size w w' := by
  have HB := Aside0.mk (Below.refl w.heap.size w)
  have H : ((cohousinglaw07_head.f).bind fun t166 => (if t166 = true then (if (a0.size : Int) > 8100 then (some true) else ((lexer_Lex.f a0).bind fun bt167 => ((cohousingref07_Lex.f k a0).bind fun bt172 => ((cohousingref07_Same.f bt167.1 bt172.1 0).bind fun t177 => (if t177 = true then (if bt167.2.1 = bt172.2.1 then (if bt167.2.2 = bt172.2.2 then (some true) else (none)) else (none)) else (none)))))) else (none))) = some r := h
  clear h
  replace H := Option.bind_eq_some_iff.mp H
  obtain ⟨t166, A20, H⟩ := H
  replace H : (if t166 = true then (if (a0.size : Int) > 8100 then (some true) else ((lexer_Lex.f a0).bind fun bt167 => ((cohousingref07_Lex.f k a0).bind fun bt172 => ((cohousingref07_Same.f bt167.1 bt172.1 0).bind fun t177 => (if t177 = true then (if bt167.2.1 = bt172.2.1 then (if bt167.2.2 = bt172.2.2 then (some true) else (none)) else (none)) else (none)))))) else (none)) = some r := H
  have A2 := Aside0.mk A20
  clear A20
  by_cases c3 : t166 = true
  · subst c3
    have H1 : (if (a0.size : Int) > 8100 then (some true) else ((lexer_Lex.f a0).bind fun bt167 => ((cohousingref07_Lex.f k a0).bind fun bt172 => ((cohousingref07_Same.f bt167.1 bt172.1 0).bind fun t177 => (if t177 = true then (if bt167.2.1 = bt172.2.1 then (if bt167.2.2 = bt172.2.2 then (some true) else (none)) else (none)) else (none)))))) = some r := by rw [if_pos rfl] at H; exact H
    clear H
    have H := H1
    clear H1
    by_cases c4 : (a0.size : Int) > 8100
    · rw [if_pos c4] at H
      have c4b0 : decide (8100 < (a0.size : Int)) = true := decide_eq_true c4
      have c4b1 : decide (8100 < a0.size) = true := decide_eq_true (by omega)
      clear c4
      obtain rfl := Option.some.inj H
      go_enter Tryd.func3, Tryd.ntmps3
      go_wp2_with (first | ((with_reducible refine gate_callee (f := 10) rfl ?_); refine goesL_ (some 10) rfl rfl Tryd.func10 (by kernel_rfl) rfl #[] rfl (by (try simp only [List.map_toArray, List.map_cons, List.map_nil]); first | done | rfl | (simp only [List.length_drop, List.length_take]; rfl)) ?_; (with_reducible refine (cohousinglaw07_head.calls  true _ A2.out).mono ?_); rintro e w5 ⟨rfl, hb⟩; refine ⟨_, rfl, ?_⟩; have n0_ := Aside0.mk (below_step (by repeat (first | (with_reducible first | exact HB.out | apply below_alloc | apply pw_below_drewN | apply below_drew1) | exact HB.out)) hb); clear HB; have HB := n0_; clear n0_; (try clear hb); (try clear hb2); (try clear hk); (try clear hi)))
      go_ret
      exact ⟨by first | rfl | (simp [errW_none, errW_some] <;> rfl) | (simp [*, errW_none, errW_some] <;> rfl), by repeat (first | (with_reducible first | exact HB.out | apply below_alloc | apply pw_below_drewN | apply below_drew1) | exact HB.out)⟩
    · rw [if_neg c4] at H
      have c4b0 : decide (8100 < (a0.size : Int)) = false := decide_eq_false c4
      have c4b1 : decide (8100 < a0.size) = false := decide_eq_false (by omega)
      clear c4
      replace H := Option.bind_eq_some_iff.mp H
      obtain ⟨⟨t167, t168, t169⟩, A60, H⟩ := H
      replace H : ((cohousingref07_Lex.f k a0).bind fun bt172 => ((cohousingref07_Same.f t167 bt172.1 0).bind fun t177 => (if t177 = true then (if t168 = bt172.2.1 then (if t169 = bt172.2.2 then (some true) else (none)) else (none)) else (none)))) = some r := H
      have A6 := Aside0.mk A60
      clear A60
      replace H := Option.bind_eq_some_iff.mp H
      obtain ⟨⟨t172, t173, t174⟩, A70, H⟩ := H
      replace H : ((cohousingref07_Same.f t167 t172 0).bind fun t177 => (if t177 = true then (if t168 = t173 then (if t169 = t174 then (some true) else (none)) else (none)) else (none))) = some r := H
      have A7 := Aside0.mk A70
      clear A70
      replace H := Option.bind_eq_some_iff.mp H
      obtain ⟨t177, A80, H⟩ := H
      replace H : (if t177 = true then (if t168 = t173 then (if t169 = t174 then (some true) else (none)) else (none)) else (none)) = some r := H
      have A8 := Aside0.mk A80
      clear A80
      by_cases c9 : t177 = true
      · subst c9
        have H1 : (if t168 = t173 then (if t169 = t174 then (some true) else (none)) else (none)) = some r := by rw [if_pos rfl] at H; exact H
        clear H
        have H := H1
        clear H1
        by_cases c10 : t168 = t173
        · rw [if_pos c10] at H
          have c10b0 : (t168 == t173) = true := beq_iff_eq.mpr c10
          have c10b1 : (t168 != t173) = false := bne_eq_false_iff_eq.mpr c10
          clear c10
          by_cases c11 : t169 = t174
          · rw [if_pos c11] at H
            have c11b0 : (t169 == t174) = true := beq_iff_eq.mpr c11
            have c11b1 : (t169 != t174) = false := bne_eq_false_iff_eq.mpr c11
            clear c11
            obtain rfl := Option.some.inj H
            go_enter Tryd.func3, Tryd.ntmps3
            go_wp2_with (first | ((with_reducible refine gate_callee (f := 10) rfl ?_); refine goesL_ (some 10) rfl rfl Tryd.func10 (by kernel_rfl) rfl #[] rfl (by (try simp only [List.map_toArray, List.map_cons, List.map_nil]); first | done | rfl | (simp only [List.length_drop, List.length_take]; rfl)) ?_; (with_reducible refine (cohousinglaw07_head.calls  true _ A2.out).mono ?_); rintro e w12 ⟨rfl, hb⟩; refine ⟨_, rfl, ?_⟩; have n0_ := Aside0.mk (below_step (by repeat (first | (with_reducible first | exact HB.out | apply below_alloc | apply pw_below_drewN | apply below_drew1) | exact HB.out)) hb); clear HB; have HB := n0_; clear n0_; (try clear hb); (try clear hb2); (try clear hk); (try clear hi)) | ((with_reducible refine gate_callee (f := 11) rfl ?_); refine goesL_ (some 17) rfl rfl Tryd.func11 (by kernel_rfl) rfl #[.string a0] rfl (by (try simp only [List.map_toArray, List.map_cons, List.map_nil]); first | done | rfl | (simp only [List.length_drop, List.length_take]; rfl)) ?_; (with_reducible refine (lexer_Lex.calls a0 t167 t168 t169 _ A6.out).mono ?_); rintro e w13 ⟨v170, rfl, ho0, hb⟩; refine ⟨_, rfl, ?_⟩; have n0_ := Aside0.mk (Kd.R_lower ho0 (below_size (by repeat (first | (with_reducible first | exact HB.out | apply below_alloc | apply pw_below_drewN | apply below_drew1) | exact HB.out)))); have n1_ := Aside0.mk (below_step (by repeat (first | (with_reducible first | exact HB.out | apply below_alloc | apply pw_below_drewN | apply below_drew1) | exact HB.out)) hb); clear HB; have HO171 := n0_; have HB := n1_; clear n0_ n1_; (try clear hb); (try clear hb2); (try clear hk); (try clear hi); (try clear ho0)) | ((with_reducible refine gate_callee (f := 12) rfl ?_); refine goesL_ (some 23) rfl rfl Tryd.func12 (by kernel_rfl) rfl #[.string a0] rfl (by (try simp only [List.map_toArray, List.map_cons, List.map_nil]); first | done | rfl | (simp only [List.length_drop, List.length_take]; rfl)) ?_; (with_reducible refine (cohousingref07_Lex.calls k a0 t172 t173 t174 _ A7.out).mono ?_); rintro e w14 ⟨v175, rfl, ho0, hb⟩; refine ⟨_, rfl, ?_⟩; have n0_ := Aside0.mk (Kd.R_elder' (by (with_reducible repeat (first | apply Kd.R_alloc | apply Kd.R_drewN | apply Kd.R_drew)); exact HO171.out) (Kd.R_base ho0) hb); have n1_ := Aside0.mk (Kd.R_lower (Kd.R_new' ho0 (Kd.R_lt (by (with_reducible repeat (first | apply Kd.R_alloc | apply Kd.R_drewN | apply Kd.R_drew)); exact HO171.out))) (below_size (by repeat (first | (with_reducible first | exact HB.out | apply below_alloc | apply pw_below_drewN | apply below_drew1) | exact HB.out)))); have n2_ := Aside0.mk (below_step (by repeat (first | (with_reducible first | exact HB.out | apply below_alloc | apply pw_below_drewN | apply below_drew1) | exact HB.out)) hb); clear HO171; clear HB; have HO171 := n0_; have HO176 := n1_; have HB := n2_; clear n0_ n1_ n2_; (try clear hb); (try clear hb2); (try clear hk); (try clear hi); (try clear ho0); obtain ⟨Ao15, co15, eo15⟩ := Kd.R_slice HO171.out; subst eo15; obtain ⟨Ao16, co16, eo16⟩ := Kd.R_slice HO176.out; subst eo16) | (go_at_call 13; (with_reducible refine (cohousingref07_Same.calls _ _ t167 _ _ t172 0 true _ ?side1 ?side2 ?side3 ?side4 A8.out).mono ?_); (case side1 => repeat (first | exact (Kd.R_reads' HO171.out).2.2 | (with_reducible refine Kd.C_alloc ?_ _) | (with_reducible refine Kd.C_drewN ?_ _) | (with_reducible refine Kd.C_drew ?_))); (case side2 => exact (Kd.R_reads' HO171.out).2.1); (case side3 => repeat (first | exact (Kd.R_reads' HO176.out).2.2 | (with_reducible refine Kd.C_alloc ?_ _) | (with_reducible refine Kd.C_drewN ?_ _) | (with_reducible refine Kd.C_drew ?_))); (case side4 => exact (Kd.R_reads' HO176.out).2.1); rintro e w17 ⟨rfl, hb⟩; have n0_ := Aside0.mk (Kd.R_below (by (with_reducible repeat (first | apply Kd.R_alloc | apply Kd.R_drewN | apply Kd.R_drew)); exact HO171.out) hb); have n1_ := Aside0.mk (Kd.R_below (by (with_reducible repeat (first | apply Kd.R_alloc | apply Kd.R_drewN | apply Kd.R_drew)); exact HO176.out) hb); have n2_ := Aside0.mk (below_step (by repeat (first | (with_reducible first | exact HB.out | apply below_alloc | apply pw_below_drewN | apply below_drew1) | exact HB.out)) hb); clear HO171; clear HO176; clear HB; have HO171 := n0_; have HO176 := n1_; have HB := n2_; clear n0_ n1_ n2_; (try clear hb); (try clear hb2); (try clear hk); (try clear hi)))
            go_ret
            exact ⟨by first | rfl | (simp [errW_none, errW_some] <;> rfl) | (simp [*, errW_none, errW_some] <;> rfl), by repeat (first | (with_reducible first | exact HB.out | apply below_alloc | apply pw_below_drewN | apply below_drew1) | exact HB.out)⟩
          · rw [if_neg c11] at H
            exact absurd H (by simp)
        · rw [if_neg c10] at H
          exact absurd H (by simp)
      · replace c9 := Bool.eq_false_iff.mpr c9
        subst c9
        have H1 : (none) = some r := by rw [if_neg (show ¬ (false = true) by decide)] at H; exact H
        clear H
        have H := H1
        clear H1
        exact absurd H (by simp)
  · replace c3 := Bool.eq_false_iff.mpr c3
    subst c3
    have H1 : (none) = some r := by rw [if_neg (show ¬ (false = true) by decide)] at H; exact H
    clear H
    have H := H1
    clear H1
    exact absurd H (by simp)

/-! ### cohousinglaw07_LexerJoins: function 6 -/
def cohousinglaw07_LexerJoins.j0 : Nat → ByteArray → ByteArray → List (S32) → List (S32) → Bool → Option (Bool)
  | 0, _, _, _, _, _ => none
  | k + 1, x0, x1, x6, x9, x43 => if x43 = true then (some true) else (if x0.size + 1 ≤ 9223372036854775807 then (if x0.size + 1 + x1.size ≤ 9223372036854775807 then ((lexer_Lex.f ((x0 ++ (⟨#[10]⟩ : ByteArray)) ++ x1)).bind fun bt189 => (if bt189.2.1 = 0 then (if (bt189.1.length : Int) = (wrap64 ((x6.length : Int) + (x9.length : Int))) then (if 0 ≤ (x6.length : Int) then (if (x6.length : Int) ≤ (bt189.1.length : Int) then ((cohousingref07_Same.f x6 (bt189.1.take ((x6.length : Int) : Int).toNat) 0).bind fun t198 => (if t198 = true then ((cohousingref07_Same.f x9 (bt189.1.drop ((x6.length : Int) : Int).toNat) (wrap64 ((x0.size : Int) + 1))).bind fun t203 => (if t203 = true then (some true) else (none))) else (none))) else (none)) else (none)) else (none)) else (if bt189.2.1 = 2 then (if (wrap64 ((x6.length : Int) + (x9.length : Int))) > 2000 then (some true) else (none)) else (none)))) else (none)) else (none))
def cohousinglaw07_LexerJoins.f (k : Nat) (a0 : ByteArray) (a1 : ByteArray) : Option (Bool) := (cohousinglaw07_head.f).bind fun t178 => (if t178 = true then ((lexer_Lex.f a0).bind fun bt179 => ((lexer_Lex.f a1).bind fun bt184 => (if bt179.2.1 = 0 then (if bt184.2.1 = 0 then (if (a0.size : Int) > 3900 then (cohousinglaw07_LexerJoins.j0 k a0 a1 bt179.1 bt184.1 true) else (cohousinglaw07_LexerJoins.j0 k a0 a1 bt179.1 bt184.1 (decide ((a1.size : Int) > 3900)))) else (cohousinglaw07_LexerJoins.j0 k a0 a1 bt179.1 bt184.1 true)) else (cohousinglaw07_LexerJoins.j0 k a0 a1 bt179.1 bt184.1 true)))) else (none))
theorem cohousinglaw07_LexerJoins.mono_l : ∀ k, (∀ y0 y1 y2 y3 y4, LeO (cohousinglaw07_LexerJoins.j0 k y0 y1 y2 y3 y4) (cohousinglaw07_LexerJoins.j0 (k + 1) y0 y1 y2 y3 y4))
  | 0 => fun _ _ _ _ _ r h => by simp [cohousinglaw07_LexerJoins.j0] at h
  | k + 1 => by
    have ih0 := cohousinglaw07_LexerJoins.mono_l k
    · intro y0 y1 y2 y3 y4
      unfold cohousinglaw07_LexerJoins.j0
      repeat' first
      | (with_reducible exact ih0 _ _ _ _ _)
      | (with_reducible exact LeO.refl _)
      | (with_reducible exact LeO.none _)
      | (with_reducible refine LeO.ite ?_ ?_)
      | (with_reducible refine LeO.bind ?_ (fun _ => ?_))
      | exact ih0 _ _ _ _ _
      | exact LeO.none _
      | refine LeO.ite ?_ ?_
      | refine LeO.bind ?_ (fun _ => ?_)
theorem cohousinglaw07_LexerJoins.mono : ∀ a0 a1 k, LeO (cohousinglaw07_LexerJoins.f k a0 a1) (cohousinglaw07_LexerJoins.f (k + 1) a0 a1) := by
  intro a0 a1 k
  have ih0 := cohousinglaw07_LexerJoins.mono_l k
  unfold cohousinglaw07_LexerJoins.f
  repeat' first
      | (with_reducible exact ih0 _ _ _ _ _)
      | (with_reducible exact LeO.refl _)
      | (with_reducible exact LeO.none _)
      | (with_reducible refine LeO.ite ?_ ?_)
      | (with_reducible refine LeO.bind ?_ (fun _ => ?_))
      | exact ih0 _ _ _ _ _
      | exact LeO.none _
      | refine LeO.ite ?_ ?_
      | refine LeO.bind ?_ (fun _ => ?_)
set_option maxHeartbeats 8000000 in
set_option maxRecDepth 100000 in
theorem cohousinglaw07_LexerJoins.calls (k : Nat) (a0 : ByteArray) (a1 : ByteArray) (r : Bool) (w : World) (h : cohousinglaw07_LexerJoins.f k a0 a1 = some r) :
    Calls Tryd.prog 6 #[.string a0, .string a1] w fun e w' => e = .returned (.bool r) ∧ Below w.heap.size w w' := by
  have HB := Aside0.mk (Below.refl w.heap.size w)
  have H : ((cohousinglaw07_head.f).bind fun t178 => (if t178 = true then ((lexer_Lex.f a0).bind fun bt179 => ((lexer_Lex.f a1).bind fun bt184 => (if bt179.2.1 = 0 then (if bt184.2.1 = 0 then (if (a0.size : Int) > 3900 then (cohousinglaw07_LexerJoins.j0 k a0 a1 bt179.1 bt184.1 true) else (cohousinglaw07_LexerJoins.j0 k a0 a1 bt179.1 bt184.1 (decide ((a1.size : Int) > 3900)))) else (cohousinglaw07_LexerJoins.j0 k a0 a1 bt179.1 bt184.1 true)) else (cohousinglaw07_LexerJoins.j0 k a0 a1 bt179.1 bt184.1 true)))) else (none))) = some r := h
  clear h
  replace H := Option.bind_eq_some_iff.mp H
  obtain ⟨t178, A30, H⟩ := H
  replace H : (if t178 = true then ((lexer_Lex.f a0).bind fun bt179 => ((lexer_Lex.f a1).bind fun bt184 => (if bt179.2.1 = 0 then (if bt184.2.1 = 0 then (if (a0.size : Int) > 3900 then (cohousinglaw07_LexerJoins.j0 k a0 a1 bt179.1 bt184.1 true) else (cohousinglaw07_LexerJoins.j0 k a0 a1 bt179.1 bt184.1 (decide ((a1.size : Int) > 3900)))) else (cohousinglaw07_LexerJoins.j0 k a0 a1 bt179.1 bt184.1 true)) else (cohousinglaw07_LexerJoins.j0 k a0 a1 bt179.1 bt184.1 true)))) else (none)) = some r := H
  have A3 := Aside0.mk A30
  clear A30
  by_cases c4 : t178 = true
  · subst c4
    have H1 : ((lexer_Lex.f a0).bind fun bt179 => ((lexer_Lex.f a1).bind fun bt184 => (if bt179.2.1 = 0 then (if bt184.2.1 = 0 then (if (a0.size : Int) > 3900 then (cohousinglaw07_LexerJoins.j0 k a0 a1 bt179.1 bt184.1 true) else (cohousinglaw07_LexerJoins.j0 k a0 a1 bt179.1 bt184.1 (decide ((a1.size : Int) > 3900)))) else (cohousinglaw07_LexerJoins.j0 k a0 a1 bt179.1 bt184.1 true)) else (cohousinglaw07_LexerJoins.j0 k a0 a1 bt179.1 bt184.1 true)))) = some r := by rw [if_pos rfl] at H; exact H
    clear H
    have H := H1
    clear H1
    replace H := Option.bind_eq_some_iff.mp H
    obtain ⟨⟨t179, t180, t181⟩, A50, H⟩ := H
    replace H : ((lexer_Lex.f a1).bind fun bt184 => (if t180 = 0 then (if bt184.2.1 = 0 then (if (a0.size : Int) > 3900 then (cohousinglaw07_LexerJoins.j0 k a0 a1 t179 bt184.1 true) else (cohousinglaw07_LexerJoins.j0 k a0 a1 t179 bt184.1 (decide ((a1.size : Int) > 3900)))) else (cohousinglaw07_LexerJoins.j0 k a0 a1 t179 bt184.1 true)) else (cohousinglaw07_LexerJoins.j0 k a0 a1 t179 bt184.1 true))) = some r := H
    have A5 := Aside0.mk A50
    clear A50
    replace H := Option.bind_eq_some_iff.mp H
    obtain ⟨⟨t184, t185, t186⟩, A60, H⟩ := H
    replace H : (if t180 = 0 then (if t185 = 0 then (if (a0.size : Int) > 3900 then (cohousinglaw07_LexerJoins.j0 k a0 a1 t179 t184 true) else (cohousinglaw07_LexerJoins.j0 k a0 a1 t179 t184 (decide ((a1.size : Int) > 3900)))) else (cohousinglaw07_LexerJoins.j0 k a0 a1 t179 t184 true)) else (cohousinglaw07_LexerJoins.j0 k a0 a1 t179 t184 true)) = some r := H
    have A6 := Aside0.mk A60
    clear A60
    have HC7 := Aside0.mk H
    clear H
    go_enter Tryd.func6, Tryd.ntmps6
    go_upto_region 4 with (first | ((with_reducible refine gate_callee (f := 10) rfl ?_); refine goesL_ (some 15) rfl rfl Tryd.func10 (by kernel_rfl) rfl #[] rfl (by (try simp only [List.map_toArray, List.map_cons, List.map_nil]); first | done | rfl | (simp only [List.length_drop, List.length_take]; rfl)) ?_; (with_reducible refine (cohousinglaw07_head.calls  true _ A3.out).mono ?_); rintro e w8 ⟨rfl, hb⟩; refine ⟨_, rfl, ?_⟩; have n0_ := Aside0.mk (below_step (by repeat (first | (with_reducible first | exact HB.out | apply below_alloc | apply pw_below_drewN | apply below_drew1) | exact HB.out)) hb); clear HB; have HB := n0_; clear n0_; (try clear hb); (try clear hb2); (try clear hk); (try clear hi)) | ((with_reducible refine gate_callee (f := 11) rfl ?_); refine goesL_ (some 18) rfl rfl Tryd.func11 (by kernel_rfl) rfl #[.string a0] rfl (by (try simp only [List.map_toArray, List.map_cons, List.map_nil]); first | done | rfl | (simp only [List.length_drop, List.length_take]; rfl)) ?_; (with_reducible refine (lexer_Lex.calls a0 t179 t180 t181 _ A5.out).mono ?_); rintro e w9 ⟨v182, rfl, ho0, hb⟩; refine ⟨_, rfl, ?_⟩; have n0_ := Aside0.mk (Kd.R_lower ho0 (below_size (by repeat (first | (with_reducible first | exact HB.out | apply below_alloc | apply pw_below_drewN | apply below_drew1) | exact HB.out)))); have n1_ := Aside0.mk (below_step (by repeat (first | (with_reducible first | exact HB.out | apply below_alloc | apply pw_below_drewN | apply below_drew1) | exact HB.out)) hb); clear HB; have HO183 := n0_; have HB := n1_; clear n0_ n1_; (try clear hb); (try clear hb2); (try clear hk); (try clear hi); (try clear ho0)) | ((with_reducible refine gate_callee (f := 11) rfl ?_); refine goesL_ (some 24) rfl rfl Tryd.func11 (by kernel_rfl) rfl #[.string a1] rfl (by (try simp only [List.map_toArray, List.map_cons, List.map_nil]); first | done | rfl | (simp only [List.length_drop, List.length_take]; rfl)) ?_; (with_reducible refine (lexer_Lex.calls a1 t184 t185 t186 _ A6.out).mono ?_); rintro e w10 ⟨v187, rfl, ho0, hb⟩; refine ⟨_, rfl, ?_⟩; have n0_ := Aside0.mk (Kd.R_elder' (by (with_reducible repeat (first | apply Kd.R_alloc | apply Kd.R_drewN | apply Kd.R_drew)); exact HO183.out) (Kd.R_base ho0) hb); have n1_ := Aside0.mk (Kd.R_lower (Kd.R_new' ho0 (Kd.R_lt (by (with_reducible repeat (first | apply Kd.R_alloc | apply Kd.R_drewN | apply Kd.R_drew)); exact HO183.out))) (below_size (by repeat (first | (with_reducible first | exact HB.out | apply below_alloc | apply pw_below_drewN | apply below_drew1) | exact HB.out)))); have n2_ := Aside0.mk (below_step (by repeat (first | (with_reducible first | exact HB.out | apply below_alloc | apply pw_below_drewN | apply below_drew1) | exact HB.out)) hb); clear HO183; clear HB; have HO183 := n0_; have HO188 := n1_; have HB := n2_; clear n0_ n1_ n2_; (try clear hb); (try clear hb2); (try clear hk); (try clear hi); (try clear ho0)))
    (try simp only [Act.put, List.setIfInBounds_toArray, List.set_cons_zero, List.set_cons_succ])
    go_cut [43] (fun v43 wc => ∃ (kq : Nat) (x43_6 : Bool), v43 = .bool x43_6 ∧ Aside0 (cohousinglaw07_LexerJoins.j0 kq a0 a1 t179 t184 x43_6 = some r) ∧ Aside0 (kq ≤ k) ∧ Aside0 (Kd.R k32 32 wc w.heap.size (fun k_ => some k_ ≠ (v187 : Value).ownBlock) v182 t179) ∧ Aside0 (Kd.R k32 32 wc w.heap.size (fun k_ => some k_ ≠ (v182 : Value).ownBlock) v187 t184) ∧ Aside0 (Below w.heap.size w wc))
    case first =>
      have H := HC7.out
      clear HC7
      by_cases c11 : t180 = 0
      · rw [if_pos c11] at H
        have c11b0 : (t180 == 0) = true := beq_iff_eq.mpr c11
        have c11b1 : (t180 != 0) = false := bne_eq_false_iff_eq.mpr c11
        clear c11
        (first | rw [c11b0] | (simp only [i64_w, i32_w]; rw [c11b0]) | skip)
        by_cases c12 : t185 = 0
        · rw [if_pos c12] at H
          have c12b0 : (t185 == 0) = true := beq_iff_eq.mpr c12
          have c12b1 : (t185 != 0) = false := bne_eq_false_iff_eq.mpr c12
          clear c12
          by_cases c13 : (a0.size : Int) > 3900
          · rw [if_pos c13] at H
            have c13b0 : decide (3900 < (a0.size : Int)) = true := decide_eq_true c13
            have c13b1 : decide (3900 < a0.size) = true := decide_eq_true (by omega)
            clear c13
            have H' := Aside0.mk H
            clear H
            go_wp2
            go_meet
            case rel => exact ⟨_, (true), (by first | rfl | (simp; done) | (simp [*]; done)), H', ⟨by first | omega | exact Nat.le_refl _⟩, ⟨by (with_reducible repeat (first | apply Kd.R_alloc | apply Kd.R_drewN | apply Kd.R_drew)); exact Kd.R_mono HO183.out (fun _ hk => hk.2)⟩, ⟨by (with_reducible repeat (first | apply Kd.R_alloc | apply Kd.R_drewN | apply Kd.R_drew)); exact Kd.R_mono HO188.out (fun _ hk => hk.2)⟩, ⟨by repeat (first | (with_reducible first | exact HB.out | apply below_alloc | apply pw_below_drewN | apply below_drew1) | exact HB.out)⟩⟩
          · rw [if_neg c13] at H
            have c13b0 : decide (3900 < (a0.size : Int)) = false := decide_eq_false c13
            have c13b1 : decide (3900 < a0.size) = false := decide_eq_false (by omega)
            clear c13
            have H' := Aside0.mk H
            clear H
            go_wp2
            go_meet
            case rel => exact ⟨_, (decide ((a1.size : Int) > 3900)), (by first | rfl | (simp; done) | (simp [*]; done)), H', ⟨by first | omega | exact Nat.le_refl _⟩, ⟨by (with_reducible repeat (first | apply Kd.R_alloc | apply Kd.R_drewN | apply Kd.R_drew)); exact Kd.R_mono HO183.out (fun _ hk => hk.2)⟩, ⟨by (with_reducible repeat (first | apply Kd.R_alloc | apply Kd.R_drewN | apply Kd.R_drew)); exact Kd.R_mono HO188.out (fun _ hk => hk.2)⟩, ⟨by repeat (first | (with_reducible first | exact HB.out | apply below_alloc | apply pw_below_drewN | apply below_drew1) | exact HB.out)⟩⟩
        · rw [if_neg c12] at H
          have c12b0 : (t185 == 0) = false := beq_eq_false_iff_ne.mpr c12
          have c12b1 : (t185 != 0) = true := bne_iff_ne.mpr c12
          have H' := Aside0.mk H
          clear H
          go_wp2
          go_meet
          case rel => exact ⟨_, (true), (by first | rfl | (simp; done) | (simp [*]; done)), H', ⟨by first | omega | exact Nat.le_refl _⟩, ⟨by (with_reducible repeat (first | apply Kd.R_alloc | apply Kd.R_drewN | apply Kd.R_drew)); exact Kd.R_mono HO183.out (fun _ hk => hk.2)⟩, ⟨by (with_reducible repeat (first | apply Kd.R_alloc | apply Kd.R_drewN | apply Kd.R_drew)); exact Kd.R_mono HO188.out (fun _ hk => hk.2)⟩, ⟨by repeat (first | (with_reducible first | exact HB.out | apply below_alloc | apply pw_below_drewN | apply below_drew1) | exact HB.out)⟩⟩
      · rw [if_neg c11] at H
        have c11b0 : (t180 == 0) = false := beq_eq_false_iff_ne.mpr c11
        have c11b1 : (t180 != 0) = true := bne_iff_ne.mpr c11
        (first | rw [c11b0] | (simp only [i64_w, i32_w]; rw [c11b0]) | skip)
        have H' := Aside0.mk H
        clear H
        go_wp2
        go_meet
        case rel => exact ⟨_, (true), (by first | rfl | (simp; done) | (simp [*]; done)), H', ⟨by first | omega | exact Nat.le_refl _⟩, ⟨by (with_reducible repeat (first | apply Kd.R_alloc | apply Kd.R_drewN | apply Kd.R_drew)); exact Kd.R_mono HO183.out (fun _ hk => hk.2)⟩, ⟨by (with_reducible repeat (first | apply Kd.R_alloc | apply Kd.R_drewN | apply Kd.R_drew)); exact Kd.R_mono HO188.out (fun _ hk => hk.2)⟩, ⟨by repeat (first | (with_reducible first | exact HB.out | apply below_alloc | apply pw_below_drewN | apply below_drew1) | exact HB.out)⟩⟩
    case rest =>
      clear HC7
      try clear c1
      try clear p2
      try clear c4
      try clear c6
      try clear c10
      try clear c11
      try clear c11b0
      try clear c11b1
      try clear c12
      try clear c12b0
      try clear c12b1
      try clear c13
      try clear c13b0
      try clear c13b1
      obtain ⟨kq, x43_6, rfl, HA, HJ6, HO_6, HO_9, HB⟩ := hcut
      cases kq with
      | zero => exact absurd HA.out (by simp [cohousinglaw07_LexerJoins.j0])
      | succ kj6 =>
        have H := HA.out
        clear HA
        simp only [cohousinglaw07_LexerJoins.j0] at H
        by_cases c14 : x43_6 = true
        · subst c14
          have H1 : (some true) = some r := by rw [if_pos rfl] at H; exact H
          clear H
          have H := H1
          clear H1
          obtain rfl := Option.some.inj H
          go_wp2
          go_ret
          exact ⟨by first | rfl | (simp [errW_none, errW_some] <;> rfl) | (simp [*, errW_none, errW_some] <;> rfl), by repeat (first | (with_reducible first | exact HB.out | apply below_alloc | apply pw_below_drewN | apply below_drew1) | exact HB.out)⟩
        · replace c14 := Bool.eq_false_iff.mpr c14
          subst c14
          have H1 : (if a0.size + 1 ≤ 9223372036854775807 then (if a0.size + 1 + a1.size ≤ 9223372036854775807 then ((lexer_Lex.f ((a0 ++ (⟨#[10]⟩ : ByteArray)) ++ a1)).bind fun bt189 => (if bt189.2.1 = 0 then (if (bt189.1.length : Int) = (wrap64 ((t179.length : Int) + (t184.length : Int))) then (if 0 ≤ (t179.length : Int) then (if (t179.length : Int) ≤ (bt189.1.length : Int) then ((cohousingref07_Same.f t179 (bt189.1.take ((t179.length : Int) : Int).toNat) 0).bind fun t198 => (if t198 = true then ((cohousingref07_Same.f t184 (bt189.1.drop ((t179.length : Int) : Int).toNat) (wrap64 ((a0.size : Int) + 1))).bind fun t203 => (if t203 = true then (some true) else (none))) else (none))) else (none)) else (none)) else (none)) else (if bt189.2.1 = 2 then (if (wrap64 ((t179.length : Int) + (t184.length : Int))) > 2000 then (some true) else (none)) else (none)))) else (none)) else (none)) = some r := by rw [if_neg (show ¬ (false = true) by decide)] at H; exact H
          clear H
          have H := H1
          clear H1
          by_cases c15 : a0.size + 1 ≤ 9223372036854775807
          · rw [if_pos c15] at H
            have c15b0 := eq_true c15
            have c15b1 : decide (a0.size + 1 ≤ 9223372036854775807) = true := decide_eq_true c15
            try have c15b2 : (9223372036854775807 < a0.size + 1) = False := eq_false (Nat.not_lt.2 c15)
            by_cases c16 : a0.size + 1 + a1.size ≤ 9223372036854775807
            · rw [if_pos c16] at H
              have c16b0 := eq_true c16
              have c16b1 : decide (a0.size + 1 + a1.size ≤ 9223372036854775807) = true := decide_eq_true c16
              try have c16b2 : (9223372036854775807 < a0.size + 1 + a1.size) = False := eq_false (Nat.not_lt.2 c16)
              replace H := Option.bind_eq_some_iff.mp H
              obtain ⟨⟨t189, t190, t191⟩, A170, H⟩ := H
              replace H : (if t190 = 0 then (if (t189.length : Int) = (wrap64 ((t179.length : Int) + (t184.length : Int))) then (if 0 ≤ (t179.length : Int) then (if (t179.length : Int) ≤ (t189.length : Int) then ((cohousingref07_Same.f t179 (t189.take ((t179.length : Int) : Int).toNat) 0).bind fun t198 => (if t198 = true then ((cohousingref07_Same.f t184 (t189.drop ((t179.length : Int) : Int).toNat) (wrap64 ((a0.size : Int) + 1))).bind fun t203 => (if t203 = true then (some true) else (none))) else (none))) else (none)) else (none)) else (none)) else (if t190 = 2 then (if (wrap64 ((t179.length : Int) + (t184.length : Int))) > 2000 then (some true) else (none)) else (none))) = some r := H
              have A17 := Aside0.mk A170
              clear A170
              by_cases c18 : t190 = 0
              · rw [if_pos c18] at H
                have c18b0 : (t190 == 0) = true := beq_iff_eq.mpr c18
                have c18b1 : (t190 != 0) = false := bne_eq_false_iff_eq.mpr c18
                clear c18
                by_cases c19 : (t189.length : Int) = (wrap64 ((t179.length : Int) + (t184.length : Int)))
                · rw [if_pos c19] at H
                  have c19b0 : ((t189.length : Int) == (wrap64 ((t179.length : Int) + (t184.length : Int)))) = true := beq_iff_eq.mpr c19
                  have c19b1 : ((t189.length : Int) != (wrap64 ((t179.length : Int) + (t184.length : Int)))) = false := bne_eq_false_iff_eq.mpr c19
                  clear c19
                  by_cases c20 : 0 ≤ (t179.length : Int)
                  · rw [if_pos c20] at H
                    have c20b0 := eq_true c20
                    have c20b1 : decide (0 ≤ (t179.length : Int)) = true := decide_eq_true c20
                    clear c20
                    by_cases c21 : (t179.length : Int) ≤ (t189.length : Int)
                    · rw [if_pos c21] at H
                      have c21b0 := eq_true c21
                      have c21b1 : decide ((t179.length : Int) ≤ (t189.length : Int)) = true := decide_eq_true c21
                      clear c21
                      obtain ⟨y194, hy194⟩ : ∃ y_ : List (S32), y_ = (t189.take ((t179.length : Int) : Int).toNat) := ⟨_, rfl⟩
                      replace H : ((cohousingref07_Same.f t179 y194 0).bind fun t198 => (if t198 = true then ((cohousingref07_Same.f t184 (t189.drop ((t179.length : Int) : Int).toNat) (wrap64 ((a0.size : Int) + 1))).bind fun t203 => (if t203 = true then (some true) else (none))) else (none))) = some r := by first | (rw [hy194]; with_reducible exact H) | (have H2_ := (Option.bind_some _ _).symm.trans H; rw [hy194]; with_reducible exact H2_) | (have H2_ := (Option.bind_some _ _).symm.trans H; with_reducible exact H2_) | with_reducible exact H | (rw [hy194]; exact H) | exact H
                      have Ny194 := Aside0.mk hy194
                      clear hy194
                      replace H := Option.bind_eq_some_iff.mp H
                      obtain ⟨t198, A220, H⟩ := H
                      replace H : (if t198 = true then ((cohousingref07_Same.f t184 (t189.drop ((t179.length : Int) : Int).toNat) (wrap64 ((a0.size : Int) + 1))).bind fun t203 => (if t203 = true then (some true) else (none))) else (none)) = some r := H
                      have A22 := Aside0.mk A220
                      clear A220
                      by_cases c23 : t198 = true
                      · subst c23
                        have H1 : ((cohousingref07_Same.f t184 (t189.drop ((t179.length : Int) : Int).toNat) (wrap64 ((a0.size : Int) + 1))).bind fun t203 => (if t203 = true then (some true) else (none))) = some r := by rw [if_pos rfl] at H; exact H
                        clear H
                        have H := H1
                        clear H1
                        have c24b0 := eq_true (of_decide_eq_true (by first | (with_reducible assumption) | assumption) : 0 ≤ (t179.length : Int))
                        have c25b0 := eq_true (of_decide_eq_true (by first | (with_reducible assumption) | assumption) : (t179.length : Int) ≤ (t189.length : Int))
                        obtain ⟨y199, hy199⟩ : ∃ y_ : List (S32), y_ = (t189.drop ((t179.length : Int) : Int).toNat) := ⟨_, rfl⟩
                        replace H : ((cohousingref07_Same.f t184 y199 (wrap64 ((a0.size : Int) + 1))).bind fun t203 => (if t203 = true then (some true) else (none))) = some r := by first | (rw [hy199]; with_reducible exact H) | (have H2_ := (Option.bind_some _ _).symm.trans H; rw [hy199]; with_reducible exact H2_) | (have H2_ := (Option.bind_some _ _).symm.trans H; with_reducible exact H2_) | with_reducible exact H | (rw [hy199]; exact H) | exact H
                        have Ny199 := Aside0.mk hy199
                        clear hy199
                        replace H := Option.bind_eq_some_iff.mp H
                        obtain ⟨t203, A260, H⟩ := H
                        replace H : (if t203 = true then (some true) else (none)) = some r := H
                        have hwz_ : wrap64 ((a0.size : Int) + 1) = (a0.size : Int) + 1 := (by have h_ := of_decide_eq_true (by first | (with_reducible assumption) | assumption : decide (a0.size + 1 ≤ 9223372036854775807) = true); unfold wrap64; omega)
                        rw [hwz_] at A260
                        clear hwz_
                        have A26 := Aside0.mk A260
                        clear A260
                        by_cases c27 : t203 = true
                        · subst c27
                          have H1 : (some true) = some r := by rw [if_pos rfl] at H; exact H
                          clear H
                          have H := H1
                          clear H1
                          obtain rfl := Option.some.inj H
                          go_wp2_with (first | ((with_reducible refine gate_callee (f := 11) rfl ?_); refine goesL_ (some 50) rfl rfl Tryd.func11 (by kernel_rfl) rfl #[.string ((a0 ++ (⟨#[10]⟩ : ByteArray)) ++ a1)] rfl (by (try simp only [List.map_toArray, List.map_cons, List.map_nil]); first | done | rfl | (simp only [List.length_drop, List.length_take]; rfl)) ?_; (with_reducible refine (lexer_Lex.calls ((a0 ++ (⟨#[10]⟩ : ByteArray)) ++ a1) t189 t190 t191 _ A17.out).mono ?_); rintro e w28 ⟨v192, rfl, ho0, hb⟩; refine ⟨_, rfl, ?_⟩; have n0_ := Aside0.mk (Kd.R_elder' (by (with_reducible repeat (first | apply Kd.R_alloc | apply Kd.R_drewN | apply Kd.R_drew)); exact HO_6.out) (Kd.R_base ho0) hb); have n1_ := Aside0.mk (Kd.R_elder' (by (with_reducible repeat (first | apply Kd.R_alloc | apply Kd.R_drewN | apply Kd.R_drew)); exact HO_9.out) (Kd.R_base ho0) hb); have n2_ := Aside0.mk (Kd.R_lower (Kd.R_new' (Kd.R_new' ho0 (Kd.R_lt (by (with_reducible repeat (first | apply Kd.R_alloc | apply Kd.R_drewN | apply Kd.R_drew)); exact HO_6.out))) (Kd.R_lt (by (with_reducible repeat (first | apply Kd.R_alloc | apply Kd.R_drewN | apply Kd.R_drew)); exact HO_9.out))) (below_size (by repeat (first | (with_reducible first | exact HB.out | apply below_alloc | apply pw_below_drewN | apply below_drew1) | exact HB.out)))); have n3_ := Aside0.mk (below_step (by repeat (first | (with_reducible first | exact HB.out | apply below_alloc | apply pw_below_drewN | apply below_drew1) | exact HB.out)) hb); clear HO_6; clear HO_9; clear HB; have HO_6 := n0_; have HO_9 := n1_; have HO193 := n2_; have HB := n3_; clear n0_ n1_ n2_ n3_; (try clear hb); (try clear hb2); (try clear hk); (try clear hi); (try clear ho0); obtain ⟨Ao29, co29, eo29⟩ := Kd.R_slice HO193.out; subst eo29; obtain ⟨Ao30, co30, eo30⟩ := Kd.R_slice HO_6.out; subst eo30; obtain ⟨Ao31, co31, eo31⟩ := Kd.R_slice HO_9.out; subst eo31; have q32 : ((t179.length : Int) : Int) ≤ ((t189.length : Int) : Int) := of_decide_eq_true (by first | (with_reducible assumption) | assumption); obtain ⟨i032, hi032, _, hsz32, _⟩ := info_parts info32; have hroom32 : t189.length ≤ co29 := (Kd.R_reads' HO193.out).2.1; have hC32 : Kd.C k32 _ Ao29 t189.length t189 := (Kd.R_reads' HO193.out).2.2; have hcut32 := cut_to (P := Tryd.prog) 23 32 .i64 Tryd.underlying23 hi032 Ao29 t189.length co29 (t179.length : Int) (of_decide_eq_true (by first | (with_reducible assumption) | assumption)) q32 hroom32; have hr32 := Kd.C_take (m := ((t179.length : Int) : Int).toNat) hC32 (by omega); have hy32 : y194.length = ((t179.length : Int) : Int).toNat := (by rw [Ny194.out, List.length_take]; omega); rw [← Ny194.out] at hr32; rw [← hy32] at hcut32; have HR197 := Aside0.mk hr32; have HC197 := Aside0.mk (show y194.length ≤ co29 from by omega); clear hr32 hC32 hroom32 hi032 hsz32; have KY32 := Aside0.mk hy32; clear hy32; have KL32 := Aside0.mk (show ((t179.length : Int) : Int).toNat ≤ t189.length from by omega); replace q32 := eq_true q32) | (go_at_call 13; (with_reducible refine (cohousingref07_Same.calls _ _ t179 _ _ y194 0 true _ ?side1 ?side2 ?side3 ?side4 A22.out).mono ?_); (case side1 => repeat (first | exact (Kd.R_reads' HO_6.out).2.2 | (with_reducible refine Kd.C_alloc ?_ _) | (with_reducible refine Kd.C_drewN ?_ _) | (with_reducible refine Kd.C_drew ?_))); (case side2 => exact (Kd.R_reads' HO_6.out).2.1); (case side3 => repeat (first | exact (by repeat (first | (with_reducible exact HR197.out) | (with_reducible refine Kd.C_alloc ?_ _) | (with_reducible refine Kd.C_drewN ?_ _) | (with_reducible refine Kd.C_drew ?_) | exact HR197.out)) | (with_reducible refine Kd.C_alloc ?_ _) | (with_reducible refine Kd.C_drewN ?_ _) | (with_reducible refine Kd.C_drew ?_))); (case side4 => exact HC197.out); rintro e w33 ⟨rfl, hb⟩; have n0_ := Aside0.mk (Kd.R_below (by (with_reducible repeat (first | apply Kd.R_alloc | apply Kd.R_drewN | apply Kd.R_drew)); exact HO_6.out) hb); have n1_ := Aside0.mk (Kd.R_below (by (with_reducible repeat (first | apply Kd.R_alloc | apply Kd.R_drewN | apply Kd.R_drew)); exact HO_9.out) hb); have n2_ := Aside0.mk (Kd.R_below (by (with_reducible repeat (first | apply Kd.R_alloc | apply Kd.R_drewN | apply Kd.R_drew)); exact HO193.out) hb); have n3_ := Aside0.mk (Kd.C_below (by repeat (first | (with_reducible exact HR197.out) | (with_reducible refine Kd.C_alloc ?_ _) | (with_reducible refine Kd.C_drewN ?_ _) | (with_reducible refine Kd.C_drew ?_) | exact HR197.out)) hb); have n4_ := Aside0.mk (below_step (by repeat (first | (with_reducible first | exact HB.out | apply below_alloc | apply pw_below_drewN | apply below_drew1) | exact HB.out)) hb); clear HO_6; clear HO_9; clear HO193; clear HR197; clear HB; have HO_6 := n0_; have HO_9 := n1_; have HO193 := n2_; have HR197 := n3_; have HB := n4_; clear n0_ n1_ n2_ n3_ n4_; (try clear hb); (try clear hb2); (try clear hk); (try clear hi); have q34 : ((t179.length : Int) : Int) ≤ ((t189.length : Int) : Int) := of_decide_eq_true (by first | (with_reducible assumption) | assumption); obtain ⟨i034, hi034, _, hsz34, _⟩ := info_parts info32; have hroom34 : t189.length ≤ co29 := (Kd.R_reads' HO193.out).2.1; have hC34 : Kd.C k32 _ Ao29 t189.length t189 := (Kd.R_reads' HO193.out).2.2; have q034 : (0 : Int) ≤ ((t179.length : Int) : Int) := of_decide_eq_true (by first | (with_reducible assumption) | assumption); have hcut34 := cut_from (P := Tryd.prog) 23 32 .i64 Tryd.underlying23 hi034 5 hsz34 Ao29 t189.length co29 (t179.length : Int) q034 q34; have hr34 := Kd.C_drop (m := ((t179.length : Int) : Int).toNat) (c := co29) hC34 (by omega) hroom34; obtain ⟨A34, hA34⟩ : ∃ A1, A1 = (if co29 = ((t179.length : Int) : Int).toNat then Ao29 else (Ao29 : Option Addr).map (·.add (((t179.length : Int) : Int).toNat * 5))) := ⟨_, rfl⟩; obtain ⟨c34, hc34⟩ : ∃ c1, c1 = co29 - ((t179.length : Int) : Int).toNat := ⟨_, rfl⟩; have hy34 : y199.length = t189.length - ((t179.length : Int) : Int).toNat := (by rw [Ny199.out, List.length_drop] <;> omega); rw [show (t189).drop ((t179.length : Int) : Int).toNat = y199 from Ny199.out.symm] at hr34; replace hr34 : Kd.C k32 _ A34 y199.length y199 := (by rw [hA34]; exact hr34); rw [← hy34, ← hA34, ← hc34] at hcut34; have HR202 := Aside0.mk hr34; have HC202 := Aside0.mk (show y199.length ≤ c34 from by rw [hy34, hc34]; exact Nat.sub_le_sub_right hroom34 _); clear hr34 hC34 hroom34 hi034 hsz34 hc34; have KY34 := Aside0.mk hy34; have KA34 := Aside0.mk hA34; clear hy34 hA34; have KL34 := Aside0.mk (show ((t179.length : Int) : Int).toNat ≤ t189.length from by omega); replace q34 := eq_true q34) | (go_at_call 13; (with_reducible refine (cohousingref07_Same.calls _ _ t184 _ _ y199 ((a0.size : Int) + 1) true _ ?side1 ?side2 ?side3 ?side4 A26.out).mono ?_); (case side1 => repeat (first | exact (Kd.R_reads' HO_9.out).2.2 | (with_reducible refine Kd.C_alloc ?_ _) | (with_reducible refine Kd.C_drewN ?_ _) | (with_reducible refine Kd.C_drew ?_))); (case side2 => exact (Kd.R_reads' HO_9.out).2.1); (case side3 => repeat (first | exact (by repeat (first | (with_reducible exact HR202.out) | (with_reducible refine Kd.C_alloc ?_ _) | (with_reducible refine Kd.C_drewN ?_ _) | (with_reducible refine Kd.C_drew ?_) | exact HR202.out)) | (with_reducible refine Kd.C_alloc ?_ _) | (with_reducible refine Kd.C_drewN ?_ _) | (with_reducible refine Kd.C_drew ?_))); (case side4 => exact HC202.out); rintro e w35 ⟨rfl, hb⟩; have n0_ := Aside0.mk (Kd.R_below (by (with_reducible repeat (first | apply Kd.R_alloc | apply Kd.R_drewN | apply Kd.R_drew)); exact HO_6.out) hb); have n1_ := Aside0.mk (Kd.R_below (by (with_reducible repeat (first | apply Kd.R_alloc | apply Kd.R_drewN | apply Kd.R_drew)); exact HO_9.out) hb); have n2_ := Aside0.mk (Kd.R_below (by (with_reducible repeat (first | apply Kd.R_alloc | apply Kd.R_drewN | apply Kd.R_drew)); exact HO193.out) hb); have n3_ := Aside0.mk (Kd.C_below (by repeat (first | (with_reducible exact HR197.out) | (with_reducible refine Kd.C_alloc ?_ _) | (with_reducible refine Kd.C_drewN ?_ _) | (with_reducible refine Kd.C_drew ?_) | exact HR197.out)) hb); have n4_ := Aside0.mk (Kd.C_below (by repeat (first | (with_reducible exact HR202.out) | (with_reducible refine Kd.C_alloc ?_ _) | (with_reducible refine Kd.C_drewN ?_ _) | (with_reducible refine Kd.C_drew ?_) | exact HR202.out)) hb); have n5_ := Aside0.mk (below_step (by repeat (first | (with_reducible first | exact HB.out | apply below_alloc | apply pw_below_drewN | apply below_drew1) | exact HB.out)) hb); clear HO_6; clear HO_9; clear HO193; clear HR197; clear HR202; clear HB; have HO_6 := n0_; have HO_9 := n1_; have HO193 := n2_; have HR197 := n3_; have HR202 := n4_; have HB := n5_; clear n0_ n1_ n2_ n3_ n4_ n5_; (try clear hb); (try clear hb2); (try clear hk); (try clear hi)))
                          go_ret
                          exact ⟨by first | rfl | (simp [errW_none, errW_some] <;> rfl) | (simp [*, errW_none, errW_some] <;> rfl), by repeat (first | (with_reducible first | exact HB.out | apply below_alloc | apply pw_below_drewN | apply below_drew1) | exact HB.out)⟩
                        · replace c27 := Bool.eq_false_iff.mpr c27
                          subst c27
                          have H1 : (none) = some r := by rw [if_neg (show ¬ (false = true) by decide)] at H; exact H
                          clear H
                          have H := H1
                          clear H1
                          exact absurd H (by simp)
                      · replace c23 := Bool.eq_false_iff.mpr c23
                        subst c23
                        have H1 : (none) = some r := by rw [if_neg (show ¬ (false = true) by decide)] at H; exact H
                        clear H
                        have H := H1
                        clear H1
                        exact absurd H (by simp)
                    · rw [if_neg c21] at H
                      exact absurd H (by simp)
                  · rw [if_neg c20] at H
                    exact absurd H (by simp)
                · rw [if_neg c19] at H
                  exact absurd H (by simp)
              · rw [if_neg c18] at H
                have c18b0 : (t190 == 0) = false := beq_eq_false_iff_ne.mpr c18
                have c18b1 : (t190 != 0) = true := bne_iff_ne.mpr c18
                by_cases c36 : t190 = 2
                · rw [if_pos c36] at H
                  have c36b0 : (t190 == 2) = true := beq_iff_eq.mpr c36
                  have c36b1 : (t190 != 2) = false := bne_eq_false_iff_eq.mpr c36
                  clear c36
                  by_cases c37 : (wrap64 ((t179.length : Int) + (t184.length : Int))) > 2000
                  · rw [if_pos c37] at H
                    have c37b0 : decide (2000 < (wrap64 ((t179.length : Int) + (t184.length : Int)))) = true := decide_eq_true c37
                    clear c37
                    obtain rfl := Option.some.inj H
                    go_wp2_with (first | ((with_reducible refine gate_callee (f := 11) rfl ?_); refine goesL_ (some 50) rfl rfl Tryd.func11 (by kernel_rfl) rfl #[.string ((a0 ++ (⟨#[10]⟩ : ByteArray)) ++ a1)] rfl (by (try simp only [List.map_toArray, List.map_cons, List.map_nil]); first | done | rfl | (simp only [List.length_drop, List.length_take]; rfl)) ?_; (with_reducible refine (lexer_Lex.calls ((a0 ++ (⟨#[10]⟩ : ByteArray)) ++ a1) t189 t190 t191 _ A17.out).mono ?_); rintro e w38 ⟨v192, rfl, ho0, hb⟩; refine ⟨_, rfl, ?_⟩; have n0_ := Aside0.mk (Kd.R_elder' (by (with_reducible repeat (first | apply Kd.R_alloc | apply Kd.R_drewN | apply Kd.R_drew)); exact HO_6.out) (Kd.R_base ho0) hb); have n1_ := Aside0.mk (Kd.R_elder' (by (with_reducible repeat (first | apply Kd.R_alloc | apply Kd.R_drewN | apply Kd.R_drew)); exact HO_9.out) (Kd.R_base ho0) hb); have n2_ := Aside0.mk (Kd.R_lower (Kd.R_new' (Kd.R_new' ho0 (Kd.R_lt (by (with_reducible repeat (first | apply Kd.R_alloc | apply Kd.R_drewN | apply Kd.R_drew)); exact HO_6.out))) (Kd.R_lt (by (with_reducible repeat (first | apply Kd.R_alloc | apply Kd.R_drewN | apply Kd.R_drew)); exact HO_9.out))) (below_size (by repeat (first | (with_reducible first | exact HB.out | apply below_alloc | apply pw_below_drewN | apply below_drew1) | exact HB.out)))); have n3_ := Aside0.mk (below_step (by repeat (first | (with_reducible first | exact HB.out | apply below_alloc | apply pw_below_drewN | apply below_drew1) | exact HB.out)) hb); clear HO_6; clear HO_9; clear HB; have HO_6 := n0_; have HO_9 := n1_; have HO193 := n2_; have HB := n3_; clear n0_ n1_ n2_ n3_; (try clear hb); (try clear hb2); (try clear hk); (try clear hi); (try clear ho0); obtain ⟨Ao39, co39, eo39⟩ := Kd.R_slice HO_6.out; subst eo39; obtain ⟨Ao40, co40, eo40⟩ := Kd.R_slice HO_9.out; subst eo40))
                    go_ret
                    exact ⟨by first | rfl | (simp [errW_none, errW_some] <;> rfl) | (simp [*, errW_none, errW_some] <;> rfl), by repeat (first | (with_reducible first | exact HB.out | apply below_alloc | apply pw_below_drewN | apply below_drew1) | exact HB.out)⟩
                  · rw [if_neg c37] at H
                    exact absurd H (by simp)
                · rw [if_neg c36] at H
                  exact absurd H (by simp)
            · rw [if_neg c16] at H
              exact absurd H (by simp)
          · rw [if_neg c15] at H
            exact absurd H (by simp)
  · replace c4 := Bool.eq_false_iff.mpr c4
    subst c4
    have H1 : (none) = some r := by rw [if_neg (show ¬ (false = true) by decide)] at H; exact H
    clear H
    have H := H1
    clear H1
    exact absurd H (by simp)

end Go.Proofs.YtmpjoaljincclaaDoor.X
