-- Written by a program of mine (wip/tools/xprint.py) over the kit's print.py: printed functions and hand-proved ones side by side.
import Derived.Test.YtmpjoaljincclaaDoorXx0
import Derived.Test.YtmpjoaljincclaaDoorXx1
import Derived.Test.YtmpjoaljincclaaDoorXx6
import Derived.Test.YtmpjoaljincclaaDoorXx9
namespace Go.Proofs.YtmpjoaljincclaaDoor.X
open Go.RowKit Go.Proofs.YtmpjoaljincclaaDoorW.PrintWords Go.Proofs.YtmpjoaljincclaaDoorW.PrintLast Go.Proofs.YtmpjoaljincclaaDoorW.PrintMore
attribute [local go_sem] max2_int min2_int max_two min_two max_three min_three max_four min_four   -- for this text's walks alone
set_option linter.unusedVariables false
set_option linter.unusedSimpArgs false

attribute [local go_sem high] eqA32
/-! ### cohousinglaw07_LexerMatchesReference: function 3 -/
def cohousinglaw07_LexerMatchesReference.f (k : Nat) (a0 : ByteArray) : Option (Bool) := (cohousinglaw07_head.f).bind fun t166 => (if t166 = true then (if (a0.size : Int) > 8100 then (some true) else ((lexer_Lex.f a0).bind fun bt167 => ((cohousingref07_Lex.f k a0).bind fun bt172 => ((cohousingref07_Same.f bt167.1 bt172.1 0).bind fun t177 => (if t177 = true then (if bt167.2.1 = bt172.2.1 then (if bt167.2.2 = bt172.2.2 then (some true) else (none)) else (none)) else (none)))))) else (none))
theorem cohousinglaw07_LexerMatchesReference.mono : ∀ a0 k, LeO (cohousinglaw07_LexerMatchesReference.f k a0) (cohousinglaw07_LexerMatchesReference.f (k + 1) a0) := by
  intro a0 k
  unfold cohousinglaw07_LexerMatchesReference.f
  repeat' first
      | (with_reducible exact cohousingref07_Lex.mono _ _)
      | (with_reducible exact LeO.refl _)
      | (with_reducible exact LeO.none _)
      | (with_reducible refine LeO.ite ?_ ?_)
      | (with_reducible refine LeO.bind ?_ (fun _ => ?_))
      | exact cohousingref07_Lex.mono _ _
      | exact LeO.none _
      | refine LeO.ite ?_ ?_
      | refine LeO.bind ?_ (fun _ => ?_)
set_option maxHeartbeats 8000000 in
set_option maxRecDepth 100000 in
theorem cohousinglaw07_LexerMatchesReference.calls (k : Nat) (a0 : ByteArray) (r : Bool) (w : World) (h : cohousinglaw07_LexerMatchesReference.f k a0 = some r) :
    Calls Tryd.prog 3 #[.string a0] w fun e w' => e = .returned (.bool r) ∧ Below w.heap.size w w' := by
  have HB := Aside0.mk (Below.refl w.heap.size w)
  have H : ((cohousinglaw07_head.f).bind fun t166 => (if t166 = true then (if (a0.size : Int) > 8100 then (some true) else ((lexer_Lex.f a0).bind fun bt167 => ((cohousingref07_Lex.f k a0).bind fun bt172 => ((cohousingref07_Same.f bt167.1 bt172.1 0).bind fun t177 => (if t177 = true then (if bt167.2.1 = bt172.2.1 then (if bt167.2.2 = bt172.2.2 then (some true) else (none)) else (none)) else (none)))))) else (none))) = some r := h
  clear h
  replace H := Option.bind_eq_some_iff.mp H
  obtain ⟨t166, A20, H⟩ := H
  replace H : (if t166 = true then (if (a0.size : Int) > 8100 then (some true) else ((lexer_Lex.f a0).bind fun bt167 => ((cohousingref07_Lex.f k a0).bind fun bt172 => ((cohousingref07_Same.f bt167.1 bt172.1 0).bind fun t177 => (if t177 = true then (if bt167.2.1 = bt172.2.1 then (if bt167.2.2 = bt172.2.2 then (some true) else (none)) else (none)) else (none)))))) else (none)) = some r := H
  have A2 := Aside0.mk A20
  clear A20
  by_cases c3 : t166 = true
  · subst c3
    have H1 : (if (a0.size : Int) > 8100 then (some true) else ((lexer_Lex.f a0).bind fun bt167 => ((cohousingref07_Lex.f k a0).bind fun bt172 => ((cohousingref07_Same.f bt167.1 bt172.1 0).bind fun t177 => (if t177 = true then (if bt167.2.1 = bt172.2.1 then (if bt167.2.2 = bt172.2.2 then (some true) else (none)) else (none)) else (none)))))) = some r := by rw [if_pos rfl] at H; exact H
    clear H
    have H := H1
    clear H1
    by_cases c4 : (a0.size : Int) > 8100
    · rw [if_pos c4] at H
      have c4b0 : decide (8100 < (a0.size : Int)) = true := decide_eq_true c4
      have c4b1 : decide (8100 < a0.size) = true := decide_eq_true (by omega)
      clear c4
      obtain rfl := Option.some.inj H
      go_enter Tryd.func3, Tryd.ntmps3
      go_wp2_with (first | ((with_reducible refine gate_callee (f := 10) rfl ?_); refine goesL_ (some 10) rfl rfl Tryd.func10 (by kernel_rfl) rfl #[] rfl (by (try simp only [List.map_toArray, List.map_cons, List.map_nil]); first | done | rfl | (simp only [List.length_drop, List.length_take]; rfl)) ?_; (with_reducible refine (cohousinglaw07_head.calls  true _ A2.out).mono ?_); rintro e w5 ⟨rfl, hb⟩; refine ⟨_, rfl, ?_⟩; have n0_ := Aside0.mk (below_step (by repeat (first | (with_reducible first | exact HB.out | apply below_alloc | apply pw_below_drewN | apply below_drew1) | exact HB.out)) hb); clear HB; have HB := n0_; clear n0_; (try clear hb); (try clear hb2); (try clear hk); (try clear hi)))
      go_ret
      exact ⟨by first | rfl | (simp [errW_none, errW_some] <;> rfl) | (simp [*, errW_none, errW_some] <;> rfl), by repeat (first | (with_reducible first | exact HB.out | apply below_alloc | apply pw_below_drewN | apply below_drew1) | exact HB.out)⟩
    · rw [if_neg c4] at H
      have c4b0 : decide (8100 < (a0.size : Int)) = false := decide_eq_false c4
      have c4b1 : decide (8100 < a0.size) = false := decide_eq_false (by omega)
      clear c4
      replace H := Option.bind_eq_some_iff.mp H
      obtain ⟨⟨t167, t168, t169⟩, A60, H⟩ := H
      replace H : ((cohousingref07_Lex.f k a0).bind fun bt172 => ((cohousingref07_Same.f t167 bt172.1 0).bind fun t177 => (if t177 = true then (if t168 = bt172.2.1 then (if t169 = bt172.2.2 then (some true) else (none)) else (none)) else (none)))) = some r := H
      have A6 := Aside0.mk A60
      clear A60
      replace H := Option.bind_eq_some_iff.mp H
      obtain ⟨⟨t172, t173, t174⟩, A70, H⟩ := H
      replace H : ((cohousingref07_Same.f t167 t172 0).bind fun t177 => (if t177 = true then (if t168 = t173 then (if t169 = t174 then (some true) else (none)) else (none)) else (none))) = some r := H
      have A7 := Aside0.mk A70
      clear A70
      replace H := Option.bind_eq_some_iff.mp H
      obtain ⟨t177, A80, H⟩ := H
      replace H : (if t177 = true then (if t168 = t173 then (if t169 = t174 then (some true) else (none)) else (none)) else (none)) = some r := H
      have A8 := Aside0.mk A80
      clear A80
      by_cases c9 : t177 = true
      · subst c9
        have H1 : (if t168 = t173 then (if t169 = t174 then (some true) else (none)) else (none)) = some r := by rw [if_pos rfl] at H; exact H
        clear H
        have H := H1
        clear H1
        by_cases c10 : t168 = t173
        · rw [if_pos c10] at H
          have c10b0 : (t168 == t173) = true := beq_iff_eq.mpr c10
          have c10b1 : (t168 != t173) = false := bne_eq_false_iff_eq.mpr c10
          clear c10
          by_cases c11 : t169 = t174
          · rw [if_pos c11] at H
            have c11b0 : (t169 == t174) = true := beq_iff_eq.mpr c11
            have c11b1 : (t169 != t174) = false := bne_eq_false_iff_eq.mpr c11
            clear c11
            obtain rfl := Option.some.inj H
            go_enter Tryd.func3, Tryd.ntmps3
            go_wp2_with (first | ((with_reducible refine gate_callee (f := 10) rfl ?_); refine goesL_ (some 10) rfl rfl Tryd.func10 (by kernel_rfl) rfl #[] rfl (by (try simp only [List.map_toArray, List.map_cons, List.map_nil]); first | done | rfl | (simp only [List.length_drop, List.length_take]; rfl)) ?_; (with_reducible refine (cohousinglaw07_head.calls  true _ A2.out).mono ?_); rintro e w12 ⟨rfl, hb⟩; refine ⟨_, rfl, ?_⟩; have n0_ := Aside0.mk (below_step (by repeat (first | (with_reducible first | exact HB.out | apply below_alloc | apply pw_below_drewN | apply below_drew1) | exact HB.out)) hb); clear HB; have HB := n0_; clear n0_; (try clear hb); (try clear hb2); (try clear hk); (try clear hi)) | ((with_reducible refine gate_callee (f := 11) rfl ?_); refine goesL_ (some 17) rfl rfl Tryd.func11 (by kernel_rfl) rfl #[.string a0] rfl (by (try simp only [List.map_toArray, List.map_cons, List.map_nil]); first | done | rfl | (simp only [List.length_drop, List.length_take]; rfl)) ?_; (with_reducible refine (lexer_Lex.calls a0 t167 t168 t169 _ A6.out).mono ?_); rintro e w13 ⟨v170, rfl, ho0, hb⟩; refine ⟨_, rfl, ?_⟩; have n0_ := Aside0.mk (Kd.R_lower ho0 (below_size (by repeat (first | (with_reducible first | exact HB.out | apply below_alloc | apply pw_below_drewN | apply below_drew1) | exact HB.out)))); have n1_ := Aside0.mk (below_step (by repeat (first | (with_reducible first | exact HB.out | apply below_alloc | apply pw_below_drewN | apply below_drew1) | exact HB.out)) hb); clear HB; have HO171 := n0_; have HB := n1_; clear n0_ n1_; (try clear hb); (try clear hb2); (try clear hk); (try clear hi); (try clear ho0)) | ((with_reducible refine gate_callee (f := 12) rfl ?_); refine goesL_ (some 23) rfl rfl Tryd.func12 (by kernel_rfl) rfl #[.string a0] rfl (by (try simp only [List.map_toArray, List.map_cons, List.map_nil]); first | done | rfl | (simp only [List.length_drop, List.length_take]; rfl)) ?_; (with_reducible refine (cohousingref07_Lex.calls k a0 t172 t173 t174 _ A7.out).mono ?_); rintro e w14 ⟨v175, rfl, ho0, hb⟩; refine ⟨_, rfl, ?_⟩; have n0_ := Aside0.mk (Kd.R_elder' (by (with_reducible repeat (first | apply Kd.R_alloc | apply Kd.R_drewN | apply Kd.R_drew)); exact HO171.out) (Kd.R_base ho0) hb); have n1_ := Aside0.mk (Kd.R_lower (Kd.R_new' ho0 (Kd.R_lt (by (with_reducible repeat (first | apply Kd.R_alloc | apply Kd.R_drewN | apply Kd.R_drew)); exact HO171.out))) (below_size (by repeat (first | (with_reducible first | exact HB.out | apply below_alloc | apply pw_below_drewN | apply below_drew1) | exact HB.out)))); have n2_ := Aside0.mk (below_step (by repeat (first | (with_reducible first | exact HB.out | apply below_alloc | apply pw_below_drewN | apply below_drew1) | exact HB.out)) hb); clear HO171; clear HB; have HO171 := n0_; have HO176 := n1_; have HB := n2_; clear n0_ n1_ n2_; (try clear hb); (try clear hb2); (try clear hk); (try clear hi); (try clear ho0); obtain ⟨Ao15, co15, eo15⟩ := Kd.R_slice HO171.out; subst eo15; obtain ⟨Ao16, co16, eo16⟩ := Kd.R_slice HO176.out; subst eo16) | (go_at_call 13; (with_reducible refine (cohousingref07_Same.calls _ _ t167 _ _ t172 0 true _ ?side1 ?side2 ?side3 ?side4 A8.out).mono ?_); (case side1 => repeat (first | exact (Kd.R_reads' HO171.out).2.2 | (with_reducible refine Kd.C_alloc ?_ _) | (with_reducible refine Kd.C_drewN ?_ _) | (with_reducible refine Kd.C_drew ?_))); (case side2 => exact (Kd.R_reads' HO171.out).2.1); (case side3 => repeat (first | exact (Kd.R_reads' HO176.out).2.2 | (with_reducible refine Kd.C_alloc ?_ _) | (with_reducible refine Kd.C_drewN ?_ _) | (with_reducible refine Kd.C_drew ?_))); (case side4 => exact (Kd.R_reads' HO176.out).2.1); rintro e w17 ⟨rfl, hb⟩; have n0_ := Aside0.mk (Kd.R_below (by (with_reducible repeat (first | apply Kd.R_alloc | apply Kd.R_drewN | apply Kd.R_drew)); exact HO171.out) hb); have n1_ := Aside0.mk (Kd.R_below (by (with_reducible repeat (first | apply Kd.R_alloc | apply Kd.R_drewN | apply Kd.R_drew)); exact HO176.out) hb); have n2_ := Aside0.mk (below_step (by repeat (first | (with_reducible first | exact HB.out | apply below_alloc | apply pw_below_drewN | apply below_drew1) | exact HB.out)) hb); clear HO171; clear HO176; clear HB; have HO171 := n0_; have HO176 := n1_; have HB := n2_; clear n0_ n1_ n2_; (try clear hb); (try clear hb2); (try clear hk); (try clear hi)))
            go_ret
            exact ⟨by first | rfl | (simp [errW_none, errW_some] <;> rfl) | (simp [*, errW_none, errW_some] <;> rfl), by repeat (first | (with_reducible first | exact HB.out | apply below_alloc | apply pw_below_drewN | apply below_drew1) | exact HB.out)⟩
          · rw [if_neg c11] at H
            exact absurd H (by simp)
        · rw [if_neg c10] at H
          exact absurd H (by simp)
      · replace c9 := Bool.eq_false_iff.mpr c9
        subst c9
        have H1 : (none) = some r := by rw [if_neg (show ¬ (false = true) by decide)] at H; exact H
        clear H
        have H := H1
        clear H1
        exact absurd H (by simp)
  · replace c3 := Bool.eq_false_iff.mpr c3
    subst c3
    have H1 : (none) = some r := by rw [if_neg (show ¬ (false = true) by decide)] at H; exact H
    clear H
    have H := H1
    clear H1
    exact absurd H (by simp)

/-! ### cohousinglaw07_length: function 14 -/
def cohousinglaw07_length.j0 : Nat → ByteArray → Bool → Int → Int → ByteArray → Int → Int → Option (Int)
  | 0, _, _, _, _, _, _, _ => none
  | k + 1, x0, x17, x179000, x179001, x179002, x179003, x179004 => if x17 = true then (some (-1)) else ((cohousingref07_Next.f k x0 x179001).bind fun bt179 => (if bt179.2.2.2.2.2.2 = 0 then (if (!(bt179.1 == x179000) || (!(bt179.2.1 == x179001) || (!(bt179.2.2.1.toList == x179002.toList) || ((!(bt179.2.2.2.1 == x179003) || (!(bt179.2.2.2.2.1 == x179004))))))) = true then (some (-1)) else (some bt179.2.2.2.2.2.1)) else (some (-1))))
def cohousinglaw07_length.f (k : Nat) (a0 : ByteArray) (a1_0 : Int) (a1_1 : Int) (a1_2 : ByteArray) (a1_3 : Int) (a1_4 : Int) : Option (Int) := if a1_1 < 0 then (cohousinglaw07_length.j0 k a0 true a1_0 a1_1 a1_2 a1_3 a1_4) else (cohousinglaw07_length.j0 k a0 (decide (a1_1 ≥ (a0.size : Int))) a1_0 a1_1 a1_2 a1_3 a1_4)
theorem cohousinglaw07_length.mono_l : ∀ k, (∀ y0 y1 y2 y3 y4 y5 y6, LeO (cohousinglaw07_length.j0 k y0 y1 y2 y3 y4 y5 y6) (cohousinglaw07_length.j0 (k + 1) y0 y1 y2 y3 y4 y5 y6))
  | 0 => fun _ _ _ _ _ _ _ r h => by simp [cohousinglaw07_length.j0] at h
  | k + 1 => by
    have ih0 := cohousinglaw07_length.mono_l k
    · intro y0 y1 y2 y3 y4 y5 y6
      unfold cohousinglaw07_length.j0
      repeat' first
      | (with_reducible exact ih0 _ _ _ _ _ _ _)
      | (with_reducible exact cohousingref07_Next.mono _ _ _)
      | (with_reducible exact LeO.refl _)
      | (with_reducible exact LeO.none _)
      | (with_reducible refine LeO.ite ?_ ?_)
      | (with_reducible refine LeO.bind ?_ (fun _ => ?_))
      | exact ih0 _ _ _ _ _ _ _
      | exact cohousingref07_Next.mono _ _ _
      | exact LeO.none _
      | refine LeO.ite ?_ ?_
      | refine LeO.bind ?_ (fun _ => ?_)
theorem cohousinglaw07_length.mono : ∀ a0 a1 a2 a3 a4 a5 k, LeO (cohousinglaw07_length.f k a0 a1 a2 a3 a4 a5) (cohousinglaw07_length.f (k + 1) a0 a1 a2 a3 a4 a5) := by
  intro a0 a1 a2 a3 a4 a5 k
  have ih0 := cohousinglaw07_length.mono_l k
  unfold cohousinglaw07_length.f
  repeat' first
      | (with_reducible exact ih0 _ _ _ _ _ _ _)
      | (with_reducible exact cohousingref07_Next.mono _ _ _)
      | (with_reducible exact LeO.refl _)
      | (with_reducible exact LeO.none _)
      | (with_reducible refine LeO.ite ?_ ?_)
      | (with_reducible refine LeO.bind ?_ (fun _ => ?_))
      | exact ih0 _ _ _ _ _ _ _
      | exact cohousingref07_Next.mono _ _ _
      | exact LeO.none _
      | refine LeO.ite ?_ ?_
      | refine LeO.bind ?_ (fun _ => ?_)
set_option maxHeartbeats 8000000 in
set_option maxRecDepth 100000 in
theorem cohousinglaw07_length.calls (k : Nat) (a0 : ByteArray) (a1_0 : Int) (a1_1 : Int) (a1_2 : ByteArray) (a1_3 : Int) (a1_4 : Int) (r : Int) (w : World) (h : cohousinglaw07_length.f k a0 a1_0 a1_1 a1_2 a1_3 a1_4 = some r) :
    Calls Tryd.prog 14 #[.string a0, .agg #[.int .i64 a1_0, .int .i64 a1_1, .string a1_2, .int .i64 a1_3, .int .i64 a1_4]] w fun e w' => e = .returned (.int .i64 r) ∧ Below w.heap.size w w' := by
  have hu32 := Tryd.underlying32
  have HB := Aside0.mk (Below.refl w.heap.size w)
  have H : (if a1_1 < 0 then (cohousinglaw07_length.j0 k a0 true a1_0 a1_1 a1_2 a1_3 a1_4) else (cohousinglaw07_length.j0 k a0 (decide (a1_1 ≥ (a0.size : Int))) a1_0 a1_1 a1_2 a1_3 a1_4)) = some r := h
  clear h
  have HC3 := Aside0.mk H
  clear H
  go_enter Tryd.func14, Tryd.ntmps14
  go_upto_region 1 with (first | ((with_reducible refine gate_dst (N := 3) rfl ?_); (try (refine gate_guard (by rfl) ?_; dsimp only)); refine box_event ?hg (N := 3) ?hd (cs := #[.int .i64 a1_0, .int .i64 a1_1, .string a1_2, .int .i64 a1_3, .int .i64 a1_4]) (t := 32) ?hr ?_; (case hd => rfl); (case hg => rfl); (case hr => first | (go_simp; done) | (go_simp; rfl)); intro gb178 hg w4 hbox hb; have n0_ := Aside0.mk (below_step (by repeat (first | (with_reducible first | exact HB.out | apply below_alloc | apply pw_below_drewN | apply below_drew1) | exact HB.out)) hb); have n1_ := Aside0.mk (hbox); have n2_ := Aside0.mk ((by rw [hg]; exact (below_size (by repeat (first | (with_reducible first | exact HB.out | apply below_alloc | apply pw_below_drewN | apply below_drew1) | exact HB.out))) : w.heap.size ≤ gb178)); have n3_ := Aside0.mk ((by rw [hg]; exact (below_size (by repeat (first | (with_reducible first | exact HB.out | apply below_alloc | apply pw_below_drewN | apply below_drew1) | exact HB.out))) : w.heap.size ≤ gb178)); clear HB; have HB := n0_; have BK178 := n1_; have GW178 := n2_; have GE178 := n3_; clear n0_ n1_ n2_ n3_; clear hb hbox hg))
  (try simp only [Act.put, List.setIfInBounds_toArray, List.set_cons_zero, List.set_cons_succ])
  go_cut [17] (fun v17 wc => ∃ (kq : Nat) (x17_2 : Bool), v17 = .bool x17_2 ∧ Aside0 (cohousinglaw07_length.j0 kq a0 x17_2 a1_0 a1_1 a1_2 a1_3 a1_4 = some r) ∧ Aside0 (kq ≤ k) ∧ Aside0 (wc.heap[gb178]? = some (.cells #[.int .i64 a1_0, .int .i64 a1_1, .string a1_2, .int .i64 a1_3, .int .i64 a1_4] 32 (0, 0))) ∧ Aside0 (Below w.heap.size w wc))
  case first =>
    have H := HC3.out
    clear HC3
    by_cases c5 : a1_1 < 0
    · rw [if_pos c5] at H
      have c5b0 : decide (a1_1 < 0) = true := decide_eq_true c5
      clear c5
      (first | rw [c5b0] | (simp only [i64_w, i32_w]; rw [c5b0]) | skip)
      have H' := Aside0.mk H
      clear H
      have hcz6_0 : w4.cell? ⟨gb178, 0, none⟩ = some (.int .i64 a1_0) := (blk_cell BK178.out 0).trans rfl
      have hcz6_1 : w4.cell? ⟨gb178, 1, none⟩ = some (.int .i64 a1_1) := (blk_cell BK178.out 1).trans rfl
      have hcz6_2 : w4.cell? ⟨gb178, 2, none⟩ = some (.string a1_2) := (blk_cell BK178.out 2).trans rfl
      have hcz6_3 : w4.cell? ⟨gb178, 3, none⟩ = some (.int .i64 a1_3) := (blk_cell BK178.out 3).trans rfl
      have hcz6_4 : w4.cell? ⟨gb178, 4, none⟩ = some (.int .i64 a1_4) := (blk_cell BK178.out 4).trans rfl
      have hfz6_0 := blk_frozen BK178.out 0
      have hfz6_1 := blk_frozen BK178.out 1
      have hfz6_2 := blk_frozen BK178.out 2
      have hfz6_3 := blk_frozen BK178.out 3
      have hfz6_4 := blk_frozen BK178.out 4
      go_wp2
      go_meet
      case rel => exact ⟨_, (true), (by first | rfl | (simp; done) | (simp [*]; done)), H', ⟨by first | omega | exact Nat.le_refl _⟩, ⟨by (with_reducible repeat (first | refine blk_drewN ?_ _ | refine blk_drew ?_ | refine blk_alloc ?_ _)); exact BK178.out⟩, ⟨by repeat (first | (with_reducible first | exact HB.out | apply below_alloc | apply pw_below_drewN | apply below_drew1 | refine below_set ?_ GE178.out) | exact HB.out)⟩⟩
    · rw [if_neg c5] at H
      have c5b0 : decide (a1_1 < 0) = false := decide_eq_false c5
      clear c5
      (first | rw [c5b0] | (simp only [i64_w, i32_w]; rw [c5b0]) | skip)
      have H' := Aside0.mk H
      clear H
      have hcz7_0 : w4.cell? ⟨gb178, 0, none⟩ = some (.int .i64 a1_0) := (blk_cell BK178.out 0).trans rfl
      have hcz7_1 : w4.cell? ⟨gb178, 1, none⟩ = some (.int .i64 a1_1) := (blk_cell BK178.out 1).trans rfl
      have hcz7_2 : w4.cell? ⟨gb178, 2, none⟩ = some (.string a1_2) := (blk_cell BK178.out 2).trans rfl
      have hcz7_3 : w4.cell? ⟨gb178, 3, none⟩ = some (.int .i64 a1_3) := (blk_cell BK178.out 3).trans rfl
      have hcz7_4 : w4.cell? ⟨gb178, 4, none⟩ = some (.int .i64 a1_4) := (blk_cell BK178.out 4).trans rfl
      have hfz7_0 := blk_frozen BK178.out 0
      have hfz7_1 := blk_frozen BK178.out 1
      have hfz7_2 := blk_frozen BK178.out 2
      have hfz7_3 := blk_frozen BK178.out 3
      have hfz7_4 := blk_frozen BK178.out 4
      go_wp2
      go_meet
      case rel => exact ⟨_, (decide (a1_1 ≥ (a0.size : Int))), (by first | rfl | (simp; done) | (simp [*]; done)), H', ⟨by first | omega | exact Nat.le_refl _⟩, ⟨by (with_reducible repeat (first | refine blk_drewN ?_ _ | refine blk_drew ?_ | refine blk_alloc ?_ _)); exact BK178.out⟩, ⟨by repeat (first | (with_reducible first | exact HB.out | apply below_alloc | apply pw_below_drewN | apply below_drew1 | refine below_set ?_ GE178.out) | exact HB.out)⟩⟩
  case rest =>
    clear HC3
    try clear c1
    try clear p2
    try clear c5
    try clear c5b0
    try clear hcz6_0
    try clear hcz6_1
    try clear hcz6_2
    try clear hcz6_3
    try clear hcz6_4
    try clear hcz7_0
    try clear hcz7_1
    try clear hcz7_2
    try clear hcz7_3
    try clear hcz7_4
    try clear hfz6_0
    try clear hfz6_1
    try clear hfz6_2
    try clear hfz6_3
    try clear hfz6_4
    try clear hfz7_0
    try clear hfz7_1
    try clear hfz7_2
    try clear hfz7_3
    try clear hfz7_4
    obtain ⟨kq, x17_2, rfl, HA, HJ2, BK178, HB⟩ := hcut
    cases kq with
    | zero => exact absurd HA.out (by simp [cohousinglaw07_length.j0])
    | succ kj2 =>
      have H := HA.out
      clear HA
      simp only [cohousinglaw07_length.j0] at H
      by_cases c8 : x17_2 = true
      · subst c8
        have H1 : (some (-1)) = some r := by rw [if_pos rfl] at H; exact H
        clear H
        have H := H1
        clear H1
        obtain rfl := Option.some.inj H
        go_wp2
        go_ret
        exact ⟨by first | rfl | (simp [errW_none, errW_some] <;> rfl) | (simp [*, errW_none, errW_some] <;> rfl), by repeat (first | (with_reducible first | exact HB.out | apply below_alloc | apply pw_below_drewN | apply below_drew1 | refine below_set ?_ GE178.out) | exact HB.out)⟩
      · replace c8 := Bool.eq_false_iff.mpr c8
        subst c8
        have H1 : ((cohousingref07_Next.f kj2 a0 a1_1).bind fun bt179 => (if bt179.2.2.2.2.2.2 = 0 then (if (!(bt179.1 == a1_0) || (!(bt179.2.1 == a1_1) || (!(bt179.2.2.1.toList == a1_2.toList) || ((!(bt179.2.2.2.1 == a1_3) || (!(bt179.2.2.2.2.1 == a1_4))))))) = true then (some (-1)) else (some bt179.2.2.2.2.2.1)) else (some (-1)))) = some r := by rw [if_neg (show ¬ (false = true) by decide)] at H; exact H
        clear H
        have H := H1
        clear H1
        replace H := Option.bind_eq_some_iff.mp H
        obtain ⟨⟨t179, t180, t181, t182, t183, t184, t185⟩, A90, H⟩ := H
        replace H : (if t185 = 0 then (if (!(t179 == a1_0) || (!(t180 == a1_1) || (!(t181.toList == a1_2.toList) || ((!(t182 == a1_3) || (!(t183 == a1_4))))))) = true then (some (-1)) else (some t184)) else (some (-1))) = some r := H
        have A9 := Aside0.mk A90
        clear A90
        by_cases c10 : t185 = 0
        · rw [if_pos c10] at H
          have c10b0 : (t185 == 0) = true := beq_iff_eq.mpr c10
          have c10b1 : (t185 != 0) = false := bne_eq_false_iff_eq.mpr c10
          clear c10
          by_cases c11 : (!(t179 == a1_0) || (!(t180 == a1_1) || (!(t181.toList == a1_2.toList) || ((!(t182 == a1_3) || (!(t183 == a1_4))))))) = true
          · rw [if_pos c11] at H
            have c11b0 : (!(t179 == a1_0) || (!(t180 == a1_1) || (!(t181.toList == a1_2.toList) || ((!(t182 == a1_3) || (!(t183 == a1_4))))))) = true := c11
            clear c11
            obtain rfl := Option.some.inj H
            have hcz12_0 : wc.cell? ⟨gb178, 0, none⟩ = some (.int .i64 a1_0) := (blk_cell BK178.out 0).trans rfl
            have hcz12_1 : wc.cell? ⟨gb178, 1, none⟩ = some (.int .i64 a1_1) := (blk_cell BK178.out 1).trans rfl
            have hcz12_2 : wc.cell? ⟨gb178, 2, none⟩ = some (.string a1_2) := (blk_cell BK178.out 2).trans rfl
            have hcz12_3 : wc.cell? ⟨gb178, 3, none⟩ = some (.int .i64 a1_3) := (blk_cell BK178.out 3).trans rfl
            have hcz12_4 : wc.cell? ⟨gb178, 4, none⟩ = some (.int .i64 a1_4) := (blk_cell BK178.out 4).trans rfl
            have hfz12_0 := blk_frozen BK178.out 0
            have hfz12_1 := blk_frozen BK178.out 1
            have hfz12_2 := blk_frozen BK178.out 2
            have hfz12_3 := blk_frozen BK178.out 3
            have hfz12_4 := blk_frozen BK178.out 4
            go_wp2_with (first | ((with_reducible refine gate_callee (f := 23) rfl ?_); refine goesL_ (some 22) rfl rfl Tryd.func23 (by kernel_rfl) rfl #[.string a0, .int .i64 a1_1] rfl (by (try simp only [List.map_toArray, List.map_cons, List.map_nil]); first | done | rfl | (simp only [List.length_drop, List.length_take]; rfl)) ?_; (with_reducible refine (cohousingref07_Next.calls kj2 a0 a1_1 t179 t180 t181 t182 t183 t184 t185 _ A9.out).mono ?_); rintro e w13 ⟨rfl, hb⟩; refine ⟨_, rfl, ?_⟩; have n0_ := Aside0.mk (blk_below (g := gb178) (o := .cells #[.int .i64 a1_0, .int .i64 a1_1, .string a1_2, .int .i64 a1_3, .int .i64 a1_4] 32 (0, 0)) (by (with_reducible repeat (first | refine blk_drewN ?_ _ | refine blk_drew ?_ | refine blk_alloc ?_ _)); exact BK178.out) hb); have n1_ := Aside0.mk (below_step (by repeat (first | (with_reducible first | exact HB.out | apply below_alloc | apply pw_below_drewN | apply below_drew1 | refine below_set ?_ GE178.out) | exact HB.out)) hb); clear BK178; clear HB; have BK178 := n0_; have HB := n1_; clear n0_ n1_; (try clear hb); (try clear hb2); (try clear hk); (try clear hi)) | ((with_reducible refine gate_dst (N := 5) rfl ?_); (try (refine gate_guard (by rfl) ?_; dsimp only)); refine box_event ?hg (N := 5) ?hd (cs := #[.int .i64 0, .int .i64 0, .string (⟨#[]⟩ : ByteArray), .int .i64 0, .int .i64 0]) (t := 32) ?hr ?_; (case hd => rfl); (case hg => rfl); (case hr => first | (go_simp; done) | (go_simp; rfl)); intro gb186 hg w14 hbox hb; have n0_ := Aside0.mk (blk_below (g := gb178) (o := .cells #[.int .i64 a1_0, .int .i64 a1_1, .string a1_2, .int .i64 a1_3, .int .i64 a1_4] 32 (0, 0)) (by (with_reducible repeat (first | refine blk_drewN ?_ _ | refine blk_drew ?_ | refine blk_alloc ?_ _)); exact BK178.out) hb); have n1_ := Aside0.mk (below_step (by repeat (first | (with_reducible first | exact HB.out | apply below_alloc | apply pw_below_drewN | apply below_drew1 | refine below_set ?_ GE178.out) | exact HB.out)) hb); have n2_ := Aside0.mk (hbox); have n3_ := Aside0.mk ((by rw [hg]; exact (below_size (by repeat (first | (with_reducible first | exact HB.out | apply below_alloc | apply pw_below_drewN | apply below_drew1 | refine below_set ?_ GE178.out) | exact HB.out))) : w.heap.size ≤ gb186)); have n4_ := Aside0.mk ((by rw [hg]; exact (below_size (by repeat (first | (with_reducible first | exact HB.out | apply below_alloc | apply pw_below_drewN | apply below_drew1 | refine below_set ?_ GE178.out) | exact HB.out))) : w.heap.size ≤ gb186)); have n5_ := Aside0.mk ((by rw [hg]; exact Nat.ne_of_lt (blk_lt (g := gb178) (o := .cells #[.int .i64 a1_0, .int .i64 a1_1, .string a1_2, .int .i64 a1_3, .int .i64 a1_4] 32 (0, 0)) (by (with_reducible repeat (first | refine blk_drewN ?_ _ | refine blk_drew ?_ | refine blk_alloc ?_ _)); exact BK178.out)) : gb178 ≠ gb186)); have n6_ := Aside0.mk ((by rw [hg]; exact Nat.ne_of_gt (blk_lt (g := gb178) (o := .cells #[.int .i64 a1_0, .int .i64 a1_1, .string a1_2, .int .i64 a1_3, .int .i64 a1_4] 32 (0, 0)) (by (with_reducible repeat (first | refine blk_drewN ?_ _ | refine blk_drew ?_ | refine blk_alloc ?_ _)); exact BK178.out)) : gb186 ≠ gb178)); clear BK178; clear HB; have BK178 := n0_; have HB := n1_; have BK186 := n2_; have GW186 := n3_; have GE186 := n4_; have NB178_186 := n5_; have NB186_178 := n6_; clear n0_ n1_ n2_ n3_ n4_ n5_ n6_; clear hb hbox hg; have hnb15 := NB186_178.out; have hnc15 := NB178_186.out; have hcz16_0 : w14.cell? ⟨gb186, 0, none⟩ = some (.int .i64 0) := (blk_cell BK186.out 0).trans rfl; have hcz16_1 : w14.cell? ⟨gb186, 1, none⟩ = some (.int .i64 0) := (blk_cell BK186.out 1).trans rfl; have hcz16_2 : w14.cell? ⟨gb186, 2, none⟩ = some (.string (⟨#[]⟩ : ByteArray)) := (blk_cell BK186.out 2).trans rfl; have hcz16_3 : w14.cell? ⟨gb186, 3, none⟩ = some (.int .i64 0) := (blk_cell BK186.out 3).trans rfl; have hcz16_4 : w14.cell? ⟨gb186, 4, none⟩ = some (.int .i64 0) := (blk_cell BK186.out 4).trans rfl; have hfz16_0 := blk_frozen BK186.out 0; have hfz16_1 := blk_frozen BK186.out 1; have hfz16_2 := blk_frozen BK186.out 2; have hfz16_3 := blk_frozen BK186.out 3; have hfz16_4 := blk_frozen BK186.out 4; have hcz17_0 : w14.cell? ⟨gb178, 0, none⟩ = some (.int .i64 a1_0) := (blk_cell BK178.out 0).trans rfl; have hcz17_1 : w14.cell? ⟨gb178, 1, none⟩ = some (.int .i64 a1_1) := (blk_cell BK178.out 1).trans rfl; have hcz17_2 : w14.cell? ⟨gb178, 2, none⟩ = some (.string a1_2) := (blk_cell BK178.out 2).trans rfl; have hcz17_3 : w14.cell? ⟨gb178, 3, none⟩ = some (.int .i64 a1_3) := (blk_cell BK178.out 3).trans rfl; have hcz17_4 : w14.cell? ⟨gb178, 4, none⟩ = some (.int .i64 a1_4) := (blk_cell BK178.out 4).trans rfl; have hfz17_0 := blk_frozen BK178.out 0; have hfz17_1 := blk_frozen BK178.out 1; have hfz17_2 := blk_frozen BK178.out 2; have hfz17_3 := blk_frozen BK178.out 3; have hfz17_4 := blk_frozen BK178.out 4))
            go_ret
            exact ⟨by first | rfl | (simp [errW_none, errW_some] <;> rfl) | (simp [*, errW_none, errW_some] <;> rfl), by repeat (first | (with_reducible first | exact HB.out | apply below_alloc | apply pw_below_drewN | apply below_drew1 | refine below_set ?_ GE178.out | refine below_set ?_ GE186.out) | exact HB.out)⟩
          · rw [if_neg c11] at H
            have c11b0 : (!(t179 == a1_0) || (!(t180 == a1_1) || (!(t181.toList == a1_2.toList) || ((!(t182 == a1_3) || (!(t183 == a1_4))))))) = false := by simpa using c11
            clear c11
            obtain rfl := Option.some.inj H
            have hcz18_0 : wc.cell? ⟨gb178, 0, none⟩ = some (.int .i64 a1_0) := (blk_cell BK178.out 0).trans rfl
            have hcz18_1 : wc.cell? ⟨gb178, 1, none⟩ = some (.int .i64 a1_1) := (blk_cell BK178.out 1).trans rfl
            have hcz18_2 : wc.cell? ⟨gb178, 2, none⟩ = some (.string a1_2) := (blk_cell BK178.out 2).trans rfl
            have hcz18_3 : wc.cell? ⟨gb178, 3, none⟩ = some (.int .i64 a1_3) := (blk_cell BK178.out 3).trans rfl
            have hcz18_4 : wc.cell? ⟨gb178, 4, none⟩ = some (.int .i64 a1_4) := (blk_cell BK178.out 4).trans rfl
            have hfz18_0 := blk_frozen BK178.out 0
            have hfz18_1 := blk_frozen BK178.out 1
            have hfz18_2 := blk_frozen BK178.out 2
            have hfz18_3 := blk_frozen BK178.out 3
            have hfz18_4 := blk_frozen BK178.out 4
            go_wp2_with (first | ((with_reducible refine gate_callee (f := 23) rfl ?_); refine goesL_ (some 22) rfl rfl Tryd.func23 (by kernel_rfl) rfl #[.string a0, .int .i64 a1_1] rfl (by (try simp only [List.map_toArray, List.map_cons, List.map_nil]); first | done | rfl | (simp only [List.length_drop, List.length_take]; rfl)) ?_; (with_reducible refine (cohousingref07_Next.calls kj2 a0 a1_1 t179 t180 t181 t182 t183 t184 t185 _ A9.out).mono ?_); rintro e w19 ⟨rfl, hb⟩; refine ⟨_, rfl, ?_⟩; have n0_ := Aside0.mk (blk_below (g := gb178) (o := .cells #[.int .i64 a1_0, .int .i64 a1_1, .string a1_2, .int .i64 a1_3, .int .i64 a1_4] 32 (0, 0)) (by (with_reducible repeat (first | refine blk_drewN ?_ _ | refine blk_drew ?_ | refine blk_alloc ?_ _)); exact BK178.out) hb); have n1_ := Aside0.mk (below_step (by repeat (first | (with_reducible first | exact HB.out | apply below_alloc | apply pw_below_drewN | apply below_drew1 | refine below_set ?_ GE178.out) | exact HB.out)) hb); clear BK178; clear HB; have BK178 := n0_; have HB := n1_; clear n0_ n1_; (try clear hb); (try clear hb2); (try clear hk); (try clear hi)) | ((with_reducible refine gate_dst (N := 5) rfl ?_); (try (refine gate_guard (by rfl) ?_; dsimp only)); refine box_event ?hg (N := 5) ?hd (cs := #[.int .i64 0, .int .i64 0, .string (⟨#[]⟩ : ByteArray), .int .i64 0, .int .i64 0]) (t := 32) ?hr ?_; (case hd => rfl); (case hg => rfl); (case hr => first | (go_simp; done) | (go_simp; rfl)); intro gb186 hg w20 hbox hb; have n0_ := Aside0.mk (blk_below (g := gb178) (o := .cells #[.int .i64 a1_0, .int .i64 a1_1, .string a1_2, .int .i64 a1_3, .int .i64 a1_4] 32 (0, 0)) (by (with_reducible repeat (first | refine blk_drewN ?_ _ | refine blk_drew ?_ | refine blk_alloc ?_ _)); exact BK178.out) hb); have n1_ := Aside0.mk (below_step (by repeat (first | (with_reducible first | exact HB.out | apply below_alloc | apply pw_below_drewN | apply below_drew1 | refine below_set ?_ GE178.out) | exact HB.out)) hb); have n2_ := Aside0.mk (hbox); have n3_ := Aside0.mk ((by rw [hg]; exact (below_size (by repeat (first | (with_reducible first | exact HB.out | apply below_alloc | apply pw_below_drewN | apply below_drew1 | refine below_set ?_ GE178.out) | exact HB.out))) : w.heap.size ≤ gb186)); have n4_ := Aside0.mk ((by rw [hg]; exact (below_size (by repeat (first | (with_reducible first | exact HB.out | apply below_alloc | apply pw_below_drewN | apply below_drew1 | refine below_set ?_ GE178.out) | exact HB.out))) : w.heap.size ≤ gb186)); have n5_ := Aside0.mk ((by rw [hg]; exact Nat.ne_of_lt (blk_lt (g := gb178) (o := .cells #[.int .i64 a1_0, .int .i64 a1_1, .string a1_2, .int .i64 a1_3, .int .i64 a1_4] 32 (0, 0)) (by (with_reducible repeat (first | refine blk_drewN ?_ _ | refine blk_drew ?_ | refine blk_alloc ?_ _)); exact BK178.out)) : gb178 ≠ gb186)); have n6_ := Aside0.mk ((by rw [hg]; exact Nat.ne_of_gt (blk_lt (g := gb178) (o := .cells #[.int .i64 a1_0, .int .i64 a1_1, .string a1_2, .int .i64 a1_3, .int .i64 a1_4] 32 (0, 0)) (by (with_reducible repeat (first | refine blk_drewN ?_ _ | refine blk_drew ?_ | refine blk_alloc ?_ _)); exact BK178.out)) : gb186 ≠ gb178)); clear BK178; clear HB; have BK178 := n0_; have HB := n1_; have BK186 := n2_; have GW186 := n3_; have GE186 := n4_; have NB178_186 := n5_; have NB186_178 := n6_; clear n0_ n1_ n2_ n3_ n4_ n5_ n6_; clear hb hbox hg; have hnb21 := NB186_178.out; have hnc21 := NB178_186.out; have hcz22_0 : w20.cell? ⟨gb186, 0, none⟩ = some (.int .i64 0) := (blk_cell BK186.out 0).trans rfl; have hcz22_1 : w20.cell? ⟨gb186, 1, none⟩ = some (.int .i64 0) := (blk_cell BK186.out 1).trans rfl; have hcz22_2 : w20.cell? ⟨gb186, 2, none⟩ = some (.string (⟨#[]⟩ : ByteArray)) := (blk_cell BK186.out 2).trans rfl; have hcz22_3 : w20.cell? ⟨gb186, 3, none⟩ = some (.int .i64 0) := (blk_cell BK186.out 3).trans rfl; have hcz22_4 : w20.cell? ⟨gb186, 4, none⟩ = some (.int .i64 0) := (blk_cell BK186.out 4).trans rfl; have hfz22_0 := blk_frozen BK186.out 0; have hfz22_1 := blk_frozen BK186.out 1; have hfz22_2 := blk_frozen BK186.out 2; have hfz22_3 := blk_frozen BK186.out 3; have hfz22_4 := blk_frozen BK186.out 4; have hcz23_0 : w20.cell? ⟨gb178, 0, none⟩ = some (.int .i64 a1_0) := (blk_cell BK178.out 0).trans rfl; have hcz23_1 : w20.cell? ⟨gb178, 1, none⟩ = some (.int .i64 a1_1) := (blk_cell BK178.out 1).trans rfl; have hcz23_2 : w20.cell? ⟨gb178, 2, none⟩ = some (.string a1_2) := (blk_cell BK178.out 2).trans rfl; have hcz23_3 : w20.cell? ⟨gb178, 3, none⟩ = some (.int .i64 a1_3) := (blk_cell BK178.out 3).trans rfl; have hcz23_4 : w20.cell? ⟨gb178, 4, none⟩ = some (.int .i64 a1_4) := (blk_cell BK178.out 4).trans rfl; have hfz23_0 := blk_frozen BK178.out 0; have hfz23_1 := blk_frozen BK178.out 1; have hfz23_2 := blk_frozen BK178.out 2; have hfz23_3 := blk_frozen BK178.out 3; have hfz23_4 := blk_frozen BK178.out 4))
            go_ret
            exact ⟨by first | rfl | (simp [errW_none, errW_some] <;> rfl) | (simp [*, errW_none, errW_some] <;> rfl), by repeat (first | (with_reducible first | exact HB.out | apply below_alloc | apply pw_below_drewN | apply below_drew1 | refine below_set ?_ GE178.out | refine below_set ?_ GE186.out) | exact HB.out)⟩
        · rw [if_neg c10] at H
          have c10b0 : (t185 == 0) = false := beq_eq_false_iff_ne.mpr c10
          have c10b1 : (t185 != 0) = true := bne_iff_ne.mpr c10
          obtain rfl := Option.some.inj H
          have hcz24_0 : wc.cell? ⟨gb178, 0, none⟩ = some (.int .i64 a1_0) := (blk_cell BK178.out 0).trans rfl
          have hcz24_1 : wc.cell? ⟨gb178, 1, none⟩ = some (.int .i64 a1_1) := (blk_cell BK178.out 1).trans rfl
          have hcz24_2 : wc.cell? ⟨gb178, 2, none⟩ = some (.string a1_2) := (blk_cell BK178.out 2).trans rfl
          have hcz24_3 : wc.cell? ⟨gb178, 3, none⟩ = some (.int .i64 a1_3) := (blk_cell BK178.out 3).trans rfl
          have hcz24_4 : wc.cell? ⟨gb178, 4, none⟩ = some (.int .i64 a1_4) := (blk_cell BK178.out 4).trans rfl
          have hfz24_0 := blk_frozen BK178.out 0
          have hfz24_1 := blk_frozen BK178.out 1
          have hfz24_2 := blk_frozen BK178.out 2
          have hfz24_3 := blk_frozen BK178.out 3
          have hfz24_4 := blk_frozen BK178.out 4
          go_wp2_with (first | ((with_reducible refine gate_callee (f := 23) rfl ?_); refine goesL_ (some 22) rfl rfl Tryd.func23 (by kernel_rfl) rfl #[.string a0, .int .i64 a1_1] rfl (by (try simp only [List.map_toArray, List.map_cons, List.map_nil]); first | done | rfl | (simp only [List.length_drop, List.length_take]; rfl)) ?_; (with_reducible refine (cohousingref07_Next.calls kj2 a0 a1_1 t179 t180 t181 t182 t183 t184 t185 _ A9.out).mono ?_); rintro e w25 ⟨rfl, hb⟩; refine ⟨_, rfl, ?_⟩; have n0_ := Aside0.mk (blk_below (g := gb178) (o := .cells #[.int .i64 a1_0, .int .i64 a1_1, .string a1_2, .int .i64 a1_3, .int .i64 a1_4] 32 (0, 0)) (by (with_reducible repeat (first | refine blk_drewN ?_ _ | refine blk_drew ?_ | refine blk_alloc ?_ _)); exact BK178.out) hb); have n1_ := Aside0.mk (below_step (by repeat (first | (with_reducible first | exact HB.out | apply below_alloc | apply pw_below_drewN | apply below_drew1 | refine below_set ?_ GE178.out) | exact HB.out)) hb); clear BK178; clear HB; have BK178 := n0_; have HB := n1_; clear n0_ n1_; (try clear hb); (try clear hb2); (try clear hk); (try clear hi)) | ((with_reducible refine gate_dst (N := 5) rfl ?_); (try (refine gate_guard (by rfl) ?_; dsimp only)); refine box_event ?hg (N := 5) ?hd (cs := #[.int .i64 0, .int .i64 0, .string (⟨#[]⟩ : ByteArray), .int .i64 0, .int .i64 0]) (t := 32) ?hr ?_; (case hd => rfl); (case hg => rfl); (case hr => first | (go_simp; done) | (go_simp; rfl)); intro gb186 hg w26 hbox hb; have n0_ := Aside0.mk (blk_below (g := gb178) (o := .cells #[.int .i64 a1_0, .int .i64 a1_1, .string a1_2, .int .i64 a1_3, .int .i64 a1_4] 32 (0, 0)) (by (with_reducible repeat (first | refine blk_drewN ?_ _ | refine blk_drew ?_ | refine blk_alloc ?_ _)); exact BK178.out) hb); have n1_ := Aside0.mk (below_step (by repeat (first | (with_reducible first | exact HB.out | apply below_alloc | apply pw_below_drewN | apply below_drew1 | refine below_set ?_ GE178.out) | exact HB.out)) hb); have n2_ := Aside0.mk (hbox); have n3_ := Aside0.mk ((by rw [hg]; exact (below_size (by repeat (first | (with_reducible first | exact HB.out | apply below_alloc | apply pw_below_drewN | apply below_drew1 | refine below_set ?_ GE178.out) | exact HB.out))) : w.heap.size ≤ gb186)); have n4_ := Aside0.mk ((by rw [hg]; exact (below_size (by repeat (first | (with_reducible first | exact HB.out | apply below_alloc | apply pw_below_drewN | apply below_drew1 | refine below_set ?_ GE178.out) | exact HB.out))) : w.heap.size ≤ gb186)); have n5_ := Aside0.mk ((by rw [hg]; exact Nat.ne_of_lt (blk_lt (g := gb178) (o := .cells #[.int .i64 a1_0, .int .i64 a1_1, .string a1_2, .int .i64 a1_3, .int .i64 a1_4] 32 (0, 0)) (by (with_reducible repeat (first | refine blk_drewN ?_ _ | refine blk_drew ?_ | refine blk_alloc ?_ _)); exact BK178.out)) : gb178 ≠ gb186)); have n6_ := Aside0.mk ((by rw [hg]; exact Nat.ne_of_gt (blk_lt (g := gb178) (o := .cells #[.int .i64 a1_0, .int .i64 a1_1, .string a1_2, .int .i64 a1_3, .int .i64 a1_4] 32 (0, 0)) (by (with_reducible repeat (first | refine blk_drewN ?_ _ | refine blk_drew ?_ | refine blk_alloc ?_ _)); exact BK178.out)) : gb186 ≠ gb178)); clear BK178; clear HB; have BK178 := n0_; have HB := n1_; have BK186 := n2_; have GW186 := n3_; have GE186 := n4_; have NB178_186 := n5_; have NB186_178 := n6_; clear n0_ n1_ n2_ n3_ n4_ n5_ n6_; clear hb hbox hg; have hnb27 := NB186_178.out; have hnc27 := NB178_186.out; have hcz28_0 : w26.cell? ⟨gb186, 0, none⟩ = some (.int .i64 0) := (blk_cell BK186.out 0).trans rfl; have hcz28_1 : w26.cell? ⟨gb186, 1, none⟩ = some (.int .i64 0) := (blk_cell BK186.out 1).trans rfl; have hcz28_2 : w26.cell? ⟨gb186, 2, none⟩ = some (.string (⟨#[]⟩ : ByteArray)) := (blk_cell BK186.out 2).trans rfl; have hcz28_3 : w26.cell? ⟨gb186, 3, none⟩ = some (.int .i64 0) := (blk_cell BK186.out 3).trans rfl; have hcz28_4 : w26.cell? ⟨gb186, 4, none⟩ = some (.int .i64 0) := (blk_cell BK186.out 4).trans rfl; have hfz28_0 := blk_frozen BK186.out 0; have hfz28_1 := blk_frozen BK186.out 1; have hfz28_2 := blk_frozen BK186.out 2; have hfz28_3 := blk_frozen BK186.out 3; have hfz28_4 := blk_frozen BK186.out 4))
          go_ret
          exact ⟨by first | rfl | (simp [errW_none, errW_some] <;> rfl) | (simp [*, errW_none, errW_some] <;> rfl), by repeat (first | (with_reducible first | exact HB.out | apply below_alloc | apply pw_below_drewN | apply below_drew1 | refine below_set ?_ GE178.out | refine below_set ?_ GE186.out) | exact HB.out)⟩

/-! ### cohousinglaw07_LexerOffsets: function 4 -/
def cohousinglaw07_LexerOffsets.l0 : Nat → ByteArray → Bool → List (S32) → Int → List (S32) → Int → Int → Option (Bool)
  | 0, _, _, _, _, _, _, _ => none
  | k + 1, x0, x3, x4, x7, x26, x27, x28 => if x28 < x27 then (if 0 ≤ x28 then (if x28 < (x26.length : Int) then ((cohousinglaw07_length.f k x0 ((rd_T32 x26 x28).f0) ((rd_T32 x26 x28).f1) ((rd_T32 x26 x28).f2) ((rd_T32 x26 x28).f3.f0) ((rd_T32 x26 x28).f3.f1)).bind fun t196 => (if t196 < 1 then (none) else (if ((rd_T32 x26 x28).f1) < x7 then (none) else (if 0 ≤ ((rd_T32 x26 x28).f1) then (if ((rd_T32 x26 x28).f1) ≤ (x0.size : Int) then ((cohousingref07_Skip.f k (x0.extract 0 (((rd_T32 x26 x28).f1) : Int).toNat) x7).bind fun t197 => (if t197 = ((rd_T32 x26 x28).f1) then (cohousinglaw07_LexerOffsets.l0 k x0 x3 x4 (wrap64 (((rd_T32 x26 x28).f1) + t196)) x26 x27 (wrap64 (x28 + 1))) else (none))) else (none)) else (none))))) else (none)) else (none)) else (if x3 = true then ((cohousingref07_Skip.f k x0 x7).bind fun t193 => (if t193 = (x0.size : Int) then (if (x4.length : Int) ≤ 2000 then (some true) else (none)) else (none))) else (none))
def cohousinglaw07_LexerOffsets.f (k : Nat) (a0 : ByteArray) : Option (Bool) := (cohousinglaw07_head.f).bind fun t187 => (if t187 = true then ((lexer_Lex.f a0).bind fun bt188 => (if bt188.2.1 = 0 then (cohousinglaw07_LexerOffsets.l0 k a0 true bt188.1 0 bt188.1 (bt188.1.length : Int) 0) else (if (bt188.1.length : Int) = 0 then (some true) else (none)))) else (none))
theorem cohousinglaw07_LexerOffsets.mono_l : ∀ k, (∀ y0 y1 y2 y3 y4 y5 y6, LeO (cohousinglaw07_LexerOffsets.l0 k y0 y1 y2 y3 y4 y5 y6) (cohousinglaw07_LexerOffsets.l0 (k + 1) y0 y1 y2 y3 y4 y5 y6))
  | 0 => fun _ _ _ _ _ _ _ r h => by simp [cohousinglaw07_LexerOffsets.l0] at h
  | k + 1 => by
    have ih0 := cohousinglaw07_LexerOffsets.mono_l k
    · intro y0 y1 y2 y3 y4 y5 y6
      unfold cohousinglaw07_LexerOffsets.l0
      repeat' first
      | (with_reducible exact ih0 _ _ _ _ _ _ _)
      | (with_reducible exact cohousinglaw07_length.mono _ _ _ _ _ _ _)
      | (with_reducible exact cohousingref07_Skip.mono _ _ _)
      | (with_reducible exact LeO.refl _)
      | (with_reducible exact LeO.none _)
      | (with_reducible refine LeO.ite ?_ ?_)
      | (with_reducible refine LeO.bind ?_ (fun _ => ?_))
      | exact ih0 _ _ _ _ _ _ _
      | exact cohousinglaw07_length.mono _ _ _ _ _ _ _
      | exact cohousingref07_Skip.mono _ _ _
      | exact LeO.none _
      | refine LeO.ite ?_ ?_
      | refine LeO.bind ?_ (fun _ => ?_)
theorem cohousinglaw07_LexerOffsets.mono : ∀ a0 k, LeO (cohousinglaw07_LexerOffsets.f k a0) (cohousinglaw07_LexerOffsets.f (k + 1) a0) := by
  intro a0 k
  have ih0 := cohousinglaw07_LexerOffsets.mono_l k
  unfold cohousinglaw07_LexerOffsets.f
  repeat' first
      | (with_reducible exact ih0 _ _ _ _ _ _ _)
      | (with_reducible exact cohousinglaw07_length.mono _ _ _ _ _ _ _)
      | (with_reducible exact cohousingref07_Skip.mono _ _ _)
      | (with_reducible exact LeO.refl _)
      | (with_reducible exact LeO.none _)
      | (with_reducible refine LeO.ite ?_ ?_)
      | (with_reducible refine LeO.bind ?_ (fun _ => ?_))
      | exact ih0 _ _ _ _ _ _ _
      | exact cohousinglaw07_length.mono _ _ _ _ _ _ _
      | exact cohousingref07_Skip.mono _ _ _
      | exact LeO.none _
      | refine LeO.ite ?_ ?_
      | refine LeO.bind ?_ (fun _ => ?_)
set_option maxHeartbeats 8000000 in
set_option maxRecDepth 100000 in
theorem cohousinglaw07_LexerOffsets.calls (k : Nat) (a0 : ByteArray) (r : Bool) (w : World) (h : cohousinglaw07_LexerOffsets.f k a0 = some r) :
    Calls Tryd.prog 4 #[.string a0] w fun e w' => e = .returned (.bool r) ∧ Below w.heap.size w w' := by
  have hu32 := Tryd.underlying32
  have HB := Aside0.mk (Below.refl w.heap.size w)
  have H : ((cohousinglaw07_head.f).bind fun t187 => (if t187 = true then ((lexer_Lex.f a0).bind fun bt188 => (if bt188.2.1 = 0 then (cohousinglaw07_LexerOffsets.l0 k a0 true bt188.1 0 bt188.1 (bt188.1.length : Int) 0) else (if (bt188.1.length : Int) = 0 then (some true) else (none)))) else (none))) = some r := h
  clear h
  replace H := Option.bind_eq_some_iff.mp H
  obtain ⟨t187, A20, H⟩ := H
  replace H : (if t187 = true then ((lexer_Lex.f a0).bind fun bt188 => (if bt188.2.1 = 0 then (cohousinglaw07_LexerOffsets.l0 k a0 true bt188.1 0 bt188.1 (bt188.1.length : Int) 0) else (if (bt188.1.length : Int) = 0 then (some true) else (none)))) else (none)) = some r := H
  have A2 := Aside0.mk A20
  clear A20
  by_cases c3 : t187 = true
  · subst c3
    have H1 : ((lexer_Lex.f a0).bind fun bt188 => (if bt188.2.1 = 0 then (cohousinglaw07_LexerOffsets.l0 k a0 true bt188.1 0 bt188.1 (bt188.1.length : Int) 0) else (if (bt188.1.length : Int) = 0 then (some true) else (none)))) = some r := by rw [if_pos rfl] at H; exact H
    clear H
    have H := H1
    clear H1
    replace H := Option.bind_eq_some_iff.mp H
    obtain ⟨⟨t188, t189, t190⟩, A40, H⟩ := H
    replace H : (if t189 = 0 then (cohousinglaw07_LexerOffsets.l0 k a0 true t188 0 t188 (t188.length : Int) 0) else (if (t188.length : Int) = 0 then (some true) else (none))) = some r := H
    have A4 := Aside0.mk A40
    clear A40
    by_cases c5 : t189 = 0
    · rw [if_pos c5] at H
      have c5b0 : (t189 == 0) = true := beq_iff_eq.mpr c5
      have c5b1 : (t189 != 0) = false := bne_eq_false_iff_eq.mpr c5
      clear c5
      have H' := Aside0.mk H
      clear H
      go_enter Tryd.func4, Tryd.ntmps4
      go_wp2_with (first | (go_at_call 10; (with_reducible refine (cohousinglaw07_head.calls  true _ A2.out).mono ?_); rintro e w6 ⟨rfl, hb⟩; have n0_ := Aside0.mk (below_step (by repeat (first | (with_reducible first | exact HB.out | apply below_alloc | apply pw_below_drewN | apply below_drew1) | exact HB.out)) hb); clear HB; have HB := n0_; clear n0_; (try clear hb); (try clear hb2); (try clear hk); (try clear hi)) | (go_at_call 11; (with_reducible refine (lexer_Lex.calls a0 t188 t189 t190 _ A4.out).mono ?_); rintro e w7 ⟨v191, rfl, ho0, hb⟩; have n0_ := Aside0.mk (Kd.R_lower ho0 (below_size (by repeat (first | (with_reducible first | exact HB.out | apply below_alloc | apply pw_below_drewN | apply below_drew1) | exact HB.out)))); have n1_ := Aside0.mk (below_step (by repeat (first | (with_reducible first | exact HB.out | apply below_alloc | apply pw_below_drewN | apply below_drew1) | exact HB.out)) hb); clear HB; have HO192 := n0_; have HB := n1_; clear n0_ n1_; (try clear hb); (try clear hb2); (try clear hk); (try clear hi); (try clear ho0); obtain ⟨Ao8, co8, eo8⟩ := Kd.R_slice HO192.out; subst eo8))
      repeat (go_quiet (first | (go_at_call 10; (with_reducible refine (cohousinglaw07_head.calls  true _ A2.out).mono ?_); rintro e w6 ⟨rfl, hb⟩; have n0_ := Aside0.mk (below_step (by repeat (first | (with_reducible first | exact HB.out | apply below_alloc | apply pw_below_drewN | apply below_drew1) | exact HB.out)) hb); clear HB; have HB := n0_; clear n0_; (try clear hb); (try clear hb2); (try clear hk); (try clear hi)) | (go_at_call 11; (with_reducible refine (lexer_Lex.calls a0 t188 t189 t190 _ A4.out).mono ?_); rintro e w7 ⟨v191, rfl, ho0, hb⟩; have n0_ := Aside0.mk (Kd.R_lower ho0 (below_size (by repeat (first | (with_reducible first | exact HB.out | apply below_alloc | apply pw_below_drewN | apply below_drew1) | exact HB.out)))); have n1_ := Aside0.mk (below_step (by repeat (first | (with_reducible first | exact HB.out | apply below_alloc | apply pw_below_drewN | apply below_drew1) | exact HB.out)) hb); clear HB; have HO192 := n0_; have HB := n1_; clear n0_ n1_; (try clear hb); (try clear hb2); (try clear hk); (try clear hi); (try clear ho0); obtain ⟨Ao8, co8, eo8⟩ := Kd.R_slice HO192.out; subst eo8)); try go_wp2_with (first | (go_at_call 10; (with_reducible refine (cohousinglaw07_head.calls  true _ A2.out).mono ?_); rintro e w6 ⟨rfl, hb⟩; have n0_ := Aside0.mk (below_step (by repeat (first | (with_reducible first | exact HB.out | apply below_alloc | apply pw_below_drewN | apply below_drew1) | exact HB.out)) hb); clear HB; have HB := n0_; clear n0_; (try clear hb); (try clear hb2); (try clear hk); (try clear hi)) | (go_at_call 11; (with_reducible refine (lexer_Lex.calls a0 t188 t189 t190 _ A4.out).mono ?_); rintro e w7 ⟨v191, rfl, ho0, hb⟩; have n0_ := Aside0.mk (Kd.R_lower ho0 (below_size (by repeat (first | (with_reducible first | exact HB.out | apply below_alloc | apply pw_below_drewN | apply below_drew1) | exact HB.out)))); have n1_ := Aside0.mk (below_step (by repeat (first | (with_reducible first | exact HB.out | apply below_alloc | apply pw_below_drewN | apply below_drew1) | exact HB.out)) hb); clear HB; have HO192 := n0_; have HB := n1_; clear n0_ n1_; (try clear hb); (try clear hb2); (try clear hk); (try clear hi); (try clear ho0); obtain ⟨Ao8, co8, eo8⟩ := Kd.R_slice HO192.out; subst eo8)))
      go_loopg [7, 28] k (fun kq v7 v28 w' => ∃ (x7_1 : Int) (x28_1 : Int), v7 = .int .i64 x7_1 ∧ v28 = .int .i64 x28_1 ∧ Aside0 (cohousinglaw07_LexerOffsets.l0 kq a0 true t188 x7_1 t188 (t188.length : Int) x28_1 = some r) ∧ Aside0 (kq ≤ k) ∧ Aside0 (Kd.R k32 32 w' w.heap.size (fun _ => True) (.slice Ao8 t188.length co8) t188) ∧ Aside0 (Kd.R k32 32 w' w.heap.size (fun _ => True) (.slice Ao8 t188.length co8) t188) ∧ Aside0 (Below w.heap.size w w'))
      case atStart => exact ⟨(0), (0), (by first | rfl | (simp; done) | (simp [*]; done)), (by first | rfl | (simp; done) | (simp [*]; done)), H', ⟨Nat.le_refl _⟩, ⟨by (with_reducible repeat (first | apply Kd.R_alloc | apply Kd.R_drewN | apply Kd.R_drew)); exact HO192.out⟩, ⟨by (with_reducible repeat (first | apply Kd.R_alloc | apply Kd.R_drewN | apply Kd.R_drew)); exact HO192.out⟩, ⟨by repeat (first | (with_reducible first | exact HB.out | apply below_alloc | apply pw_below_drewN | apply below_drew1) | exact HB.out)⟩⟩
      case round =>
        clear H'
        try clear p2
        try clear c3
        try clear c4
        try clear c5
        try clear c5b0
        try clear c5b1
        obtain ⟨x7_1, x28_1, rfl, rfl, HA, HK1, HO_4, HO_26, HB⟩ := hrel
        cases gk with
        | zero => exact absurd HA.out (by simp [cohousinglaw07_LexerOffsets.l0])
        | succ k1 =>
          have H := HA.out
          clear HA
          simp only [cohousinglaw07_LexerOffsets.l0] at H
          by_cases c9 : x28_1 < (t188.length : Int)
          · rw [if_pos c9] at H
            have c9b0 : decide (x28_1 < (t188.length : Int)) = true := decide_eq_true c9
            clear c9
            by_cases c10 : 0 ≤ x28_1
            · rw [if_pos c10] at H
              have c10b0 : decide (0 ≤ x28_1) = true := decide_eq_true c10
              clear c10
              by_cases c11 : x28_1 < (t188.length : Int)
              · rw [if_pos c11] at H
                have c11b0 : decide (x28_1 < (t188.length : Int)) = true := decide_eq_true c11
                clear c11
                replace H := Option.bind_eq_some_iff.mp H
                obtain ⟨t196, A120, H⟩ := H
                replace H : (if t196 < 1 then (none) else (if ((rd_T32 t188 x28_1).f1) < x7_1 then (none) else (if 0 ≤ ((rd_T32 t188 x28_1).f1) then (if ((rd_T32 t188 x28_1).f1) ≤ (a0.size : Int) then ((cohousingref07_Skip.f k1 (a0.extract 0 (((rd_T32 t188 x28_1).f1) : Int).toNat) x7_1).bind fun t197 => (if t197 = ((rd_T32 t188 x28_1).f1) then (cohousinglaw07_LexerOffsets.l0 k1 a0 true t188 (wrap64 (((rd_T32 t188 x28_1).f1) + t196)) t188 (t188.length : Int) (wrap64 (x28_1 + 1))) else (none))) else (none)) else (none)))) = some r := H
                have A12 := Aside0.mk A120
                clear A120
                by_cases c13 : t196 < 1
                · rw [if_pos c13] at H
                  exact absurd H (by simp)
                · rw [if_neg c13] at H
                  have c13b0 : decide (t196 < 1) = false := decide_eq_false c13
                  clear c13
                  by_cases c14 : ((rd_T32 t188 x28_1).f1) < x7_1
                  · rw [if_pos c14] at H
                    exact absurd H (by simp)
                  · rw [if_neg c14] at H
                    have c14b0 : decide (((rd_T32 t188 x28_1).f1) < x7_1) = false := decide_eq_false c14
                    clear c14
                    by_cases c15 : 0 ≤ ((rd_T32 t188 x28_1).f1)
                    · rw [if_pos c15] at H
                      have c15b0 := eq_true c15
                      have c15b1 : decide (0 ≤ ((rd_T32 t188 x28_1).f1)) = true := decide_eq_true c15
                      clear c15
                      by_cases c16 : ((rd_T32 t188 x28_1).f1) ≤ (a0.size : Int)
                      · rw [if_pos c16] at H
                        have c16b0 := eq_true c16
                        have c16b1 : decide (((rd_T32 t188 x28_1).f1) ≤ (a0.size : Int)) = true := decide_eq_true c16
                        clear c16
                        replace H := Option.bind_eq_some_iff.mp H
                        obtain ⟨t197, A170, H⟩ := H
                        replace H : (if t197 = ((rd_T32 t188 x28_1).f1) then (cohousinglaw07_LexerOffsets.l0 k1 a0 true t188 (wrap64 (((rd_T32 t188 x28_1).f1) + t196)) t188 (t188.length : Int) (wrap64 (x28_1 + 1))) else (none)) = some r := H
                        have A17 := Aside0.mk A170
                        clear A170
                        by_cases c18 : t197 = ((rd_T32 t188 x28_1).f1)
                        · rw [if_pos c18] at H
                          have c18b0 : (t197 == ((rd_T32 t188 x28_1).f1)) = true := beq_iff_eq.mpr c18
                          have c18b1 : (t197 != ((rd_T32 t188 x28_1).f1)) = false := bne_eq_false_iff_eq.mpr c18
                          clear c18
                          have H' := Aside0.mk H
                          clear H
                          have p194 : 0 ≤ (x28_1 : Int) := of_decide_eq_true (by first | (with_reducible assumption) | assumption)
                          have q194 : x28_1 < (t188.length : Int) := of_decide_eq_true (by first | (with_reducible assumption) | assumption)
                          obtain ⟨ad194, e194, hx194_0, hx194_1, hx194_2, hx194_3, hx194_4⟩ := at_T32 (Kd.R_reads' HO_26.out).2.2 x28_1 p194 q194
                          cases e194
                          replace p194 := eq_true p194
                          replace q194 := eq_true q194
                          go_wp2_with (first | ((with_reducible refine gate_dst (N := 9) rfl ?_); (try (refine gate_guard (by rfl) ?_; dsimp only)); refine box_event ?hg (N := 9) ?hd (cs := #[.int .i64 0, .int .i64 0, .string (⟨#[]⟩ : ByteArray), .int .i64 0, .int .i64 0]) (t := 32) ?hr ?_; (case hd => rfl); (case hg => rfl); (case hr => first | (go_simp; done) | (go_simp; rfl)); intro gb195 hg w19 hbox hb; have n0_ := Aside0.mk (Kd.R_below (Kd.R_elderB (by (with_reducible repeat (first | apply Kd.R_alloc | apply Kd.R_drewN | apply Kd.R_drew)); exact HO_4.out) gb195 (Nat.le_of_eq hg.symm)) hb); have n1_ := Aside0.mk (Kd.R_below (Kd.R_elderB (by (with_reducible repeat (first | apply Kd.R_alloc | apply Kd.R_drewN | apply Kd.R_drew)); exact HO_26.out) gb195 (Nat.le_of_eq hg.symm)) hb); have n2_ := Aside0.mk (below_step (by repeat (first | (with_reducible first | exact HB.out | apply below_alloc | apply pw_below_drewN | apply below_drew1) | exact HB.out)) hb); have n3_ := Aside0.mk (hbox); have n4_ := Aside0.mk ((by rw [hg]; exact (below_size (by repeat (first | (with_reducible first | exact HB.out | apply below_alloc | apply pw_below_drewN | apply below_drew1) | exact HB.out))) : w.heap.size ≤ gb195)); have n5_ := Aside0.mk ((by rw [hg]; exact (below_size (by repeat (first | (with_reducible first | exact HB.out | apply below_alloc | apply pw_below_drewN | apply below_drew1) | exact HB.out))) : w.heap.size ≤ gb195)); clear HO_4; clear HO_26; clear HB; have HO_4 := n0_; have HO_26 := n1_; have HB := n2_; have BK195 := n3_; have GW195 := n4_; have GE195 := n5_; clear n0_ n1_ n2_ n3_ n4_ n5_; clear hb hbox hg; have hcz20_0 : w19.cell? ⟨gb195, 0, none⟩ = some (.int .i64 0) := (blk_cell BK195.out 0).trans rfl; have hcz20_1 : w19.cell? ⟨gb195, 1, none⟩ = some (.int .i64 0) := (blk_cell BK195.out 1).trans rfl; have hcz20_2 : w19.cell? ⟨gb195, 2, none⟩ = some (.string (⟨#[]⟩ : ByteArray)) := (blk_cell BK195.out 2).trans rfl; have hcz20_3 : w19.cell? ⟨gb195, 3, none⟩ = some (.int .i64 0) := (blk_cell BK195.out 3).trans rfl; have hcz20_4 : w19.cell? ⟨gb195, 4, none⟩ = some (.int .i64 0) := (blk_cell BK195.out 4).trans rfl; have hfz20_0 := blk_frozen BK195.out 0; have hfz20_1 := blk_frozen BK195.out 1; have hfz20_2 := blk_frozen BK195.out 2; have hfz20_3 := blk_frozen BK195.out 3; have hfz20_4 := blk_frozen BK195.out 4) | (go_at_call 14; (with_reducible refine (cohousinglaw07_length.calls k1 a0 ((rd_T32 t188 x28_1).f0) ((rd_T32 t188 x28_1).f1) ((rd_T32 t188 x28_1).f2) ((rd_T32 t188 x28_1).f3.f0) ((rd_T32 t188 x28_1).f3.f1) t196 _ A12.out).mono ?_); rintro e w21 ⟨rfl, hb⟩; have n0_ := Aside0.mk (Kd.R_below (by (with_reducible repeat (first | apply Kd.R_alloc | apply Kd.R_drewN | apply Kd.R_drew)); exact (Kd.R_mono (Kd.R_far (p := ⟨gb195, 4, none⟩) (Kd.R_far (p := ⟨gb195, 3, none⟩) (Kd.R_far (p := ⟨gb195, 2, none⟩) (Kd.R_far (p := ⟨gb195, 1, none⟩) (Kd.R_far (p := ⟨gb195, 0, none⟩) (Kd.R_mono HO_4.out (fun k_ hk => (⟨hk, hk.2⟩ : _ ∧ k_ ≠ gb195))) (fun _ hk => hk.2) (.int .i64 ((rd_T32 t188 x28_1).f0))) (fun _ hk => hk.2) (.int .i64 ((rd_T32 t188 x28_1).f1))) (fun _ hk => hk.2) (.string ((rd_T32 t188 x28_1).f2))) (fun _ hk => hk.2) (.int .i64 ((rd_T32 t188 x28_1).f3.f0))) (fun _ hk => hk.2) (.int .i64 ((rd_T32 t188 x28_1).f3.f1))) (fun _ h_ => h_.1))) hb); have n1_ := Aside0.mk (Kd.R_below (by (with_reducible repeat (first | apply Kd.R_alloc | apply Kd.R_drewN | apply Kd.R_drew)); exact (Kd.R_mono (Kd.R_far (p := ⟨gb195, 4, none⟩) (Kd.R_far (p := ⟨gb195, 3, none⟩) (Kd.R_far (p := ⟨gb195, 2, none⟩) (Kd.R_far (p := ⟨gb195, 1, none⟩) (Kd.R_far (p := ⟨gb195, 0, none⟩) (Kd.R_mono HO_26.out (fun k_ hk => (⟨hk, hk.2⟩ : _ ∧ k_ ≠ gb195))) (fun _ hk => hk.2) (.int .i64 ((rd_T32 t188 x28_1).f0))) (fun _ hk => hk.2) (.int .i64 ((rd_T32 t188 x28_1).f1))) (fun _ hk => hk.2) (.string ((rd_T32 t188 x28_1).f2))) (fun _ hk => hk.2) (.int .i64 ((rd_T32 t188 x28_1).f3.f0))) (fun _ hk => hk.2) (.int .i64 ((rd_T32 t188 x28_1).f3.f1))) (fun _ h_ => h_.1))) hb); have n2_ := Aside0.mk (blk_below (g := gb195) (o := .cells #[.int .i64 ((rd_T32 t188 x28_1).f0), .int .i64 ((rd_T32 t188 x28_1).f1), .string ((rd_T32 t188 x28_1).f2), .int .i64 ((rd_T32 t188 x28_1).f3.f0), .int .i64 ((rd_T32 t188 x28_1).f3.f1)] 32 (0, 0)) (by (with_reducible repeat (first | refine blk_drewN ?_ _ | refine blk_drew ?_ | refine blk_alloc ?_ _)); refine blk_put (cs := #[.int .i64 ((rd_T32 t188 x28_1).f0), .int .i64 ((rd_T32 t188 x28_1).f1), .string ((rd_T32 t188 x28_1).f2), .int .i64 ((rd_T32 t188 x28_1).f3.f0), .int .i64 0]) ?_ 4 _ rfl; (with_reducible repeat (first | refine blk_drewN ?_ _ | refine blk_drew ?_ | refine blk_alloc ?_ _)); refine blk_put (cs := #[.int .i64 ((rd_T32 t188 x28_1).f0), .int .i64 ((rd_T32 t188 x28_1).f1), .string ((rd_T32 t188 x28_1).f2), .int .i64 0, .int .i64 0]) ?_ 3 _ rfl; (with_reducible repeat (first | refine blk_drewN ?_ _ | refine blk_drew ?_ | refine blk_alloc ?_ _)); refine blk_put (cs := #[.int .i64 ((rd_T32 t188 x28_1).f0), .int .i64 ((rd_T32 t188 x28_1).f1), .string (⟨#[]⟩ : ByteArray), .int .i64 0, .int .i64 0]) ?_ 2 _ rfl; (with_reducible repeat (first | refine blk_drewN ?_ _ | refine blk_drew ?_ | refine blk_alloc ?_ _)); refine blk_put (cs := #[.int .i64 ((rd_T32 t188 x28_1).f0), .int .i64 0, .string (⟨#[]⟩ : ByteArray), .int .i64 0, .int .i64 0]) ?_ 1 _ rfl; (with_reducible repeat (first | refine blk_drewN ?_ _ | refine blk_drew ?_ | refine blk_alloc ?_ _)); refine blk_put (cs := #[.int .i64 0, .int .i64 0, .string (⟨#[]⟩ : ByteArray), .int .i64 0, .int .i64 0]) ?_ 0 _ rfl; (with_reducible repeat (first | refine blk_drewN ?_ _ | refine blk_drew ?_ | refine blk_alloc ?_ _)); exact BK195.out) hb); have n3_ := Aside0.mk (below_step (by repeat (first | (with_reducible first | exact HB.out | apply below_alloc | apply pw_below_drewN | apply below_drew1 | refine below_set ?_ GE195.out) | exact HB.out)) hb); clear HO_4; clear HO_26; clear BK195; clear HB; have HO_4 := n0_; have HO_26 := n1_; have BK195 := n2_; have HB := n3_; clear n0_ n1_ n2_ n3_; (try clear hb); (try clear hb2); (try clear hk); (try clear hi); have hcz22_0 : w21.cell? ⟨gb195, 0, none⟩ = some (.int .i64 ((rd_T32 t188 x28_1).f0)) := (blk_cell BK195.out 0).trans rfl; have hcz22_1 : w21.cell? ⟨gb195, 1, none⟩ = some (.int .i64 ((rd_T32 t188 x28_1).f1)) := (blk_cell BK195.out 1).trans rfl; have hcz22_2 : w21.cell? ⟨gb195, 2, none⟩ = some (.string ((rd_T32 t188 x28_1).f2)) := (blk_cell BK195.out 2).trans rfl; have hcz22_3 : w21.cell? ⟨gb195, 3, none⟩ = some (.int .i64 ((rd_T32 t188 x28_1).f3.f0)) := (blk_cell BK195.out 3).trans rfl; have hcz22_4 : w21.cell? ⟨gb195, 4, none⟩ = some (.int .i64 ((rd_T32 t188 x28_1).f3.f1)) := (blk_cell BK195.out 4).trans rfl; have hfz22_0 := blk_frozen BK195.out 0; have hfz22_1 := blk_frozen BK195.out 1; have hfz22_2 := blk_frozen BK195.out 2; have hfz22_3 := blk_frozen BK195.out 3; have hfz22_4 := blk_frozen BK195.out 4) | (go_at_call 15; (with_reducible refine (cohousingref07_Skip.calls k1 (a0.extract 0 (((rd_T32 t188 x28_1).f1) : Int).toNat) x7_1 t197 _ A17.out).mono ?_); rintro e w' ⟨rfl, ⟨nd, rfl⟩⟩; (try first | exact ⟨rfl, _, World.drewN_drewN _ _ _⟩ | exact ⟨rfl, _, Eq.trans (World.drewN_drewN _ _ _) (congrArg (World.drewN _) (Nat.add_assoc _ _ _))⟩)))
                          repeat (go_quiet (first | ((with_reducible refine gate_dst (N := 9) rfl ?_); (try (refine gate_guard (by rfl) ?_; dsimp only)); refine box_event ?hg (N := 9) ?hd (cs := #[.int .i64 0, .int .i64 0, .string (⟨#[]⟩ : ByteArray), .int .i64 0, .int .i64 0]) (t := 32) ?hr ?_; (case hd => rfl); (case hg => rfl); (case hr => first | (go_simp; done) | (go_simp; rfl)); intro gb195 hg w19 hbox hb; have n0_ := Aside0.mk (Kd.R_below (Kd.R_elderB (by (with_reducible repeat (first | apply Kd.R_alloc | apply Kd.R_drewN | apply Kd.R_drew)); exact HO_4.out) gb195 (Nat.le_of_eq hg.symm)) hb); have n1_ := Aside0.mk (Kd.R_below (Kd.R_elderB (by (with_reducible repeat (first | apply Kd.R_alloc | apply Kd.R_drewN | apply Kd.R_drew)); exact HO_26.out) gb195 (Nat.le_of_eq hg.symm)) hb); have n2_ := Aside0.mk (below_step (by repeat (first | (with_reducible first | exact HB.out | apply below_alloc | apply pw_below_drewN | apply below_drew1) | exact HB.out)) hb); have n3_ := Aside0.mk (hbox); have n4_ := Aside0.mk ((by rw [hg]; exact (below_size (by repeat (first | (with_reducible first | exact HB.out | apply below_alloc | apply pw_below_drewN | apply below_drew1) | exact HB.out))) : w.heap.size ≤ gb195)); have n5_ := Aside0.mk ((by rw [hg]; exact (below_size (by repeat (first | (with_reducible first | exact HB.out | apply below_alloc | apply pw_below_drewN | apply below_drew1) | exact HB.out))) : w.heap.size ≤ gb195)); clear HO_4; clear HO_26; clear HB; have HO_4 := n0_; have HO_26 := n1_; have HB := n2_; have BK195 := n3_; have GW195 := n4_; have GE195 := n5_; clear n0_ n1_ n2_ n3_ n4_ n5_; clear hb hbox hg; have hcz20_0 : w19.cell? ⟨gb195, 0, none⟩ = some (.int .i64 0) := (blk_cell BK195.out 0).trans rfl; have hcz20_1 : w19.cell? ⟨gb195, 1, none⟩ = some (.int .i64 0) := (blk_cell BK195.out 1).trans rfl; have hcz20_2 : w19.cell? ⟨gb195, 2, none⟩ = some (.string (⟨#[]⟩ : ByteArray)) := (blk_cell BK195.out 2).trans rfl; have hcz20_3 : w19.cell? ⟨gb195, 3, none⟩ = some (.int .i64 0) := (blk_cell BK195.out 3).trans rfl; have hcz20_4 : w19.cell? ⟨gb195, 4, none⟩ = some (.int .i64 0) := (blk_cell BK195.out 4).trans rfl; have hfz20_0 := blk_frozen BK195.out 0; have hfz20_1 := blk_frozen BK195.out 1; have hfz20_2 := blk_frozen BK195.out 2; have hfz20_3 := blk_frozen BK195.out 3; have hfz20_4 := blk_frozen BK195.out 4) | (go_at_call 14; (with_reducible refine (cohousinglaw07_length.calls k1 a0 ((rd_T32 t188 x28_1).f0) ((rd_T32 t188 x28_1).f1) ((rd_T32 t188 x28_1).f2) ((rd_T32 t188 x28_1).f3.f0) ((rd_T32 t188 x28_1).f3.f1) t196 _ A12.out).mono ?_); rintro e w21 ⟨rfl, hb⟩; have n0_ := Aside0.mk (Kd.R_below (by (with_reducible repeat (first | apply Kd.R_alloc | apply Kd.R_drewN | apply Kd.R_drew)); exact (Kd.R_mono (Kd.R_far (p := ⟨gb195, 4, none⟩) (Kd.R_far (p := ⟨gb195, 3, none⟩) (Kd.R_far (p := ⟨gb195, 2, none⟩) (Kd.R_far (p := ⟨gb195, 1, none⟩) (Kd.R_far (p := ⟨gb195, 0, none⟩) (Kd.R_mono HO_4.out (fun k_ hk => (⟨hk, hk.2⟩ : _ ∧ k_ ≠ gb195))) (fun _ hk => hk.2) (.int .i64 ((rd_T32 t188 x28_1).f0))) (fun _ hk => hk.2) (.int .i64 ((rd_T32 t188 x28_1).f1))) (fun _ hk => hk.2) (.string ((rd_T32 t188 x28_1).f2))) (fun _ hk => hk.2) (.int .i64 ((rd_T32 t188 x28_1).f3.f0))) (fun _ hk => hk.2) (.int .i64 ((rd_T32 t188 x28_1).f3.f1))) (fun _ h_ => h_.1))) hb); have n1_ := Aside0.mk (Kd.R_below (by (with_reducible repeat (first | apply Kd.R_alloc | apply Kd.R_drewN | apply Kd.R_drew)); exact (Kd.R_mono (Kd.R_far (p := ⟨gb195, 4, none⟩) (Kd.R_far (p := ⟨gb195, 3, none⟩) (Kd.R_far (p := ⟨gb195, 2, none⟩) (Kd.R_far (p := ⟨gb195, 1, none⟩) (Kd.R_far (p := ⟨gb195, 0, none⟩) (Kd.R_mono HO_26.out (fun k_ hk => (⟨hk, hk.2⟩ : _ ∧ k_ ≠ gb195))) (fun _ hk => hk.2) (.int .i64 ((rd_T32 t188 x28_1).f0))) (fun _ hk => hk.2) (.int .i64 ((rd_T32 t188 x28_1).f1))) (fun _ hk => hk.2) (.string ((rd_T32 t188 x28_1).f2))) (fun _ hk => hk.2) (.int .i64 ((rd_T32 t188 x28_1).f3.f0))) (fun _ hk => hk.2) (.int .i64 ((rd_T32 t188 x28_1).f3.f1))) (fun _ h_ => h_.1))) hb); have n2_ := Aside0.mk (blk_below (g := gb195) (o := .cells #[.int .i64 ((rd_T32 t188 x28_1).f0), .int .i64 ((rd_T32 t188 x28_1).f1), .string ((rd_T32 t188 x28_1).f2), .int .i64 ((rd_T32 t188 x28_1).f3.f0), .int .i64 ((rd_T32 t188 x28_1).f3.f1)] 32 (0, 0)) (by (with_reducible repeat (first | refine blk_drewN ?_ _ | refine blk_drew ?_ | refine blk_alloc ?_ _)); refine blk_put (cs := #[.int .i64 ((rd_T32 t188 x28_1).f0), .int .i64 ((rd_T32 t188 x28_1).f1), .string ((rd_T32 t188 x28_1).f2), .int .i64 ((rd_T32 t188 x28_1).f3.f0), .int .i64 0]) ?_ 4 _ rfl; (with_reducible repeat (first | refine blk_drewN ?_ _ | refine blk_drew ?_ | refine blk_alloc ?_ _)); refine blk_put (cs := #[.int .i64 ((rd_T32 t188 x28_1).f0), .int .i64 ((rd_T32 t188 x28_1).f1), .string ((rd_T32 t188 x28_1).f2), .int .i64 0, .int .i64 0]) ?_ 3 _ rfl; (with_reducible repeat (first | refine blk_drewN ?_ _ | refine blk_drew ?_ | refine blk_alloc ?_ _)); refine blk_put (cs := #[.int .i64 ((rd_T32 t188 x28_1).f0), .int .i64 ((rd_T32 t188 x28_1).f1), .string (⟨#[]⟩ : ByteArray), .int .i64 0, .int .i64 0]) ?_ 2 _ rfl; (with_reducible repeat (first | refine blk_drewN ?_ _ | refine blk_drew ?_ | refine blk_alloc ?_ _)); refine blk_put (cs := #[.int .i64 ((rd_T32 t188 x28_1).f0), .int .i64 0, .string (⟨#[]⟩ : ByteArray), .int .i64 0, .int .i64 0]) ?_ 1 _ rfl; (with_reducible repeat (first | refine blk_drewN ?_ _ | refine blk_drew ?_ | refine blk_alloc ?_ _)); refine blk_put (cs := #[.int .i64 0, .int .i64 0, .string (⟨#[]⟩ : ByteArray), .int .i64 0, .int .i64 0]) ?_ 0 _ rfl; (with_reducible repeat (first | refine blk_drewN ?_ _ | refine blk_drew ?_ | refine blk_alloc ?_ _)); exact BK195.out) hb); have n3_ := Aside0.mk (below_step (by repeat (first | (with_reducible first | exact HB.out | apply below_alloc | apply pw_below_drewN | apply below_drew1 | refine below_set ?_ GE195.out) | exact HB.out)) hb); clear HO_4; clear HO_26; clear BK195; clear HB; have HO_4 := n0_; have HO_26 := n1_; have BK195 := n2_; have HB := n3_; clear n0_ n1_ n2_ n3_; (try clear hb); (try clear hb2); (try clear hk); (try clear hi); have hcz22_0 : w21.cell? ⟨gb195, 0, none⟩ = some (.int .i64 ((rd_T32 t188 x28_1).f0)) := (blk_cell BK195.out 0).trans rfl; have hcz22_1 : w21.cell? ⟨gb195, 1, none⟩ = some (.int .i64 ((rd_T32 t188 x28_1).f1)) := (blk_cell BK195.out 1).trans rfl; have hcz22_2 : w21.cell? ⟨gb195, 2, none⟩ = some (.string ((rd_T32 t188 x28_1).f2)) := (blk_cell BK195.out 2).trans rfl; have hcz22_3 : w21.cell? ⟨gb195, 3, none⟩ = some (.int .i64 ((rd_T32 t188 x28_1).f3.f0)) := (blk_cell BK195.out 3).trans rfl; have hcz22_4 : w21.cell? ⟨gb195, 4, none⟩ = some (.int .i64 ((rd_T32 t188 x28_1).f3.f1)) := (blk_cell BK195.out 4).trans rfl; have hfz22_0 := blk_frozen BK195.out 0; have hfz22_1 := blk_frozen BK195.out 1; have hfz22_2 := blk_frozen BK195.out 2; have hfz22_3 := blk_frozen BK195.out 3; have hfz22_4 := blk_frozen BK195.out 4) | (go_at_call 15; (with_reducible refine (cohousingref07_Skip.calls k1 (a0.extract 0 (((rd_T32 t188 x28_1).f1) : Int).toNat) x7_1 t197 _ A17.out).mono ?_); rintro e w' ⟨rfl, ⟨nd, rfl⟩⟩; (try first | exact ⟨rfl, _, World.drewN_drewN _ _ _⟩ | exact ⟨rfl, _, Eq.trans (World.drewN_drewN _ _ _) (congrArg (World.drewN _) (Nat.add_assoc _ _ _))⟩))); try go_wp2_with (first | ((with_reducible refine gate_dst (N := 9) rfl ?_); (try (refine gate_guard (by rfl) ?_; dsimp only)); refine box_event ?hg (N := 9) ?hd (cs := #[.int .i64 0, .int .i64 0, .string (⟨#[]⟩ : ByteArray), .int .i64 0, .int .i64 0]) (t := 32) ?hr ?_; (case hd => rfl); (case hg => rfl); (case hr => first | (go_simp; done) | (go_simp; rfl)); intro gb195 hg w19 hbox hb; have n0_ := Aside0.mk (Kd.R_below (Kd.R_elderB (by (with_reducible repeat (first | apply Kd.R_alloc | apply Kd.R_drewN | apply Kd.R_drew)); exact HO_4.out) gb195 (Nat.le_of_eq hg.symm)) hb); have n1_ := Aside0.mk (Kd.R_below (Kd.R_elderB (by (with_reducible repeat (first | apply Kd.R_alloc | apply Kd.R_drewN | apply Kd.R_drew)); exact HO_26.out) gb195 (Nat.le_of_eq hg.symm)) hb); have n2_ := Aside0.mk (below_step (by repeat (first | (with_reducible first | exact HB.out | apply below_alloc | apply pw_below_drewN | apply below_drew1) | exact HB.out)) hb); have n3_ := Aside0.mk (hbox); have n4_ := Aside0.mk ((by rw [hg]; exact (below_size (by repeat (first | (with_reducible first | exact HB.out | apply below_alloc | apply pw_below_drewN | apply below_drew1) | exact HB.out))) : w.heap.size ≤ gb195)); have n5_ := Aside0.mk ((by rw [hg]; exact (below_size (by repeat (first | (with_reducible first | exact HB.out | apply below_alloc | apply pw_below_drewN | apply below_drew1) | exact HB.out))) : w.heap.size ≤ gb195)); clear HO_4; clear HO_26; clear HB; have HO_4 := n0_; have HO_26 := n1_; have HB := n2_; have BK195 := n3_; have GW195 := n4_; have GE195 := n5_; clear n0_ n1_ n2_ n3_ n4_ n5_; clear hb hbox hg; have hcz20_0 : w19.cell? ⟨gb195, 0, none⟩ = some (.int .i64 0) := (blk_cell BK195.out 0).trans rfl; have hcz20_1 : w19.cell? ⟨gb195, 1, none⟩ = some (.int .i64 0) := (blk_cell BK195.out 1).trans rfl; have hcz20_2 : w19.cell? ⟨gb195, 2, none⟩ = some (.string (⟨#[]⟩ : ByteArray)) := (blk_cell BK195.out 2).trans rfl; have hcz20_3 : w19.cell? ⟨gb195, 3, none⟩ = some (.int .i64 0) := (blk_cell BK195.out 3).trans rfl; have hcz20_4 : w19.cell? ⟨gb195, 4, none⟩ = some (.int .i64 0) := (blk_cell BK195.out 4).trans rfl; have hfz20_0 := blk_frozen BK195.out 0; have hfz20_1 := blk_frozen BK195.out 1; have hfz20_2 := blk_frozen BK195.out 2; have hfz20_3 := blk_frozen BK195.out 3; have hfz20_4 := blk_frozen BK195.out 4) | (go_at_call 14; (with_reducible refine (cohousinglaw07_length.calls k1 a0 ((rd_T32 t188 x28_1).f0) ((rd_T32 t188 x28_1).f1) ((rd_T32 t188 x28_1).f2) ((rd_T32 t188 x28_1).f3.f0) ((rd_T32 t188 x28_1).f3.f1) t196 _ A12.out).mono ?_); rintro e w21 ⟨rfl, hb⟩; have n0_ := Aside0.mk (Kd.R_below (by (with_reducible repeat (first | apply Kd.R_alloc | apply Kd.R_drewN | apply Kd.R_drew)); exact (Kd.R_mono (Kd.R_far (p := ⟨gb195, 4, none⟩) (Kd.R_far (p := ⟨gb195, 3, none⟩) (Kd.R_far (p := ⟨gb195, 2, none⟩) (Kd.R_far (p := ⟨gb195, 1, none⟩) (Kd.R_far (p := ⟨gb195, 0, none⟩) (Kd.R_mono HO_4.out (fun k_ hk => (⟨hk, hk.2⟩ : _ ∧ k_ ≠ gb195))) (fun _ hk => hk.2) (.int .i64 ((rd_T32 t188 x28_1).f0))) (fun _ hk => hk.2) (.int .i64 ((rd_T32 t188 x28_1).f1))) (fun _ hk => hk.2) (.string ((rd_T32 t188 x28_1).f2))) (fun _ hk => hk.2) (.int .i64 ((rd_T32 t188 x28_1).f3.f0))) (fun _ hk => hk.2) (.int .i64 ((rd_T32 t188 x28_1).f3.f1))) (fun _ h_ => h_.1))) hb); have n1_ := Aside0.mk (Kd.R_below (by (with_reducible repeat (first | apply Kd.R_alloc | apply Kd.R_drewN | apply Kd.R_drew)); exact (Kd.R_mono (Kd.R_far (p := ⟨gb195, 4, none⟩) (Kd.R_far (p := ⟨gb195, 3, none⟩) (Kd.R_far (p := ⟨gb195, 2, none⟩) (Kd.R_far (p := ⟨gb195, 1, none⟩) (Kd.R_far (p := ⟨gb195, 0, none⟩) (Kd.R_mono HO_26.out (fun k_ hk => (⟨hk, hk.2⟩ : _ ∧ k_ ≠ gb195))) (fun _ hk => hk.2) (.int .i64 ((rd_T32 t188 x28_1).f0))) (fun _ hk => hk.2) (.int .i64 ((rd_T32 t188 x28_1).f1))) (fun _ hk => hk.2) (.string ((rd_T32 t188 x28_1).f2))) (fun _ hk => hk.2) (.int .i64 ((rd_T32 t188 x28_1).f3.f0))) (fun _ hk => hk.2) (.int .i64 ((rd_T32 t188 x28_1).f3.f1))) (fun _ h_ => h_.1))) hb); have n2_ := Aside0.mk (blk_below (g := gb195) (o := .cells #[.int .i64 ((rd_T32 t188 x28_1).f0), .int .i64 ((rd_T32 t188 x28_1).f1), .string ((rd_T32 t188 x28_1).f2), .int .i64 ((rd_T32 t188 x28_1).f3.f0), .int .i64 ((rd_T32 t188 x28_1).f3.f1)] 32 (0, 0)) (by (with_reducible repeat (first | refine blk_drewN ?_ _ | refine blk_drew ?_ | refine blk_alloc ?_ _)); refine blk_put (cs := #[.int .i64 ((rd_T32 t188 x28_1).f0), .int .i64 ((rd_T32 t188 x28_1).f1), .string ((rd_T32 t188 x28_1).f2), .int .i64 ((rd_T32 t188 x28_1).f3.f0), .int .i64 0]) ?_ 4 _ rfl; (with_reducible repeat (first | refine blk_drewN ?_ _ | refine blk_drew ?_ | refine blk_alloc ?_ _)); refine blk_put (cs := #[.int .i64 ((rd_T32 t188 x28_1).f0), .int .i64 ((rd_T32 t188 x28_1).f1), .string ((rd_T32 t188 x28_1).f2), .int .i64 0, .int .i64 0]) ?_ 3 _ rfl; (with_reducible repeat (first | refine blk_drewN ?_ _ | refine blk_drew ?_ | refine blk_alloc ?_ _)); refine blk_put (cs := #[.int .i64 ((rd_T32 t188 x28_1).f0), .int .i64 ((rd_T32 t188 x28_1).f1), .string (⟨#[]⟩ : ByteArray), .int .i64 0, .int .i64 0]) ?_ 2 _ rfl; (with_reducible repeat (first | refine blk_drewN ?_ _ | refine blk_drew ?_ | refine blk_alloc ?_ _)); refine blk_put (cs := #[.int .i64 ((rd_T32 t188 x28_1).f0), .int .i64 0, .string (⟨#[]⟩ : ByteArray), .int .i64 0, .int .i64 0]) ?_ 1 _ rfl; (with_reducible repeat (first | refine blk_drewN ?_ _ | refine blk_drew ?_ | refine blk_alloc ?_ _)); refine blk_put (cs := #[.int .i64 0, .int .i64 0, .string (⟨#[]⟩ : ByteArray), .int .i64 0, .int .i64 0]) ?_ 0 _ rfl; (with_reducible repeat (first | refine blk_drewN ?_ _ | refine blk_drew ?_ | refine blk_alloc ?_ _)); exact BK195.out) hb); have n3_ := Aside0.mk (below_step (by repeat (first | (with_reducible first | exact HB.out | apply below_alloc | apply pw_below_drewN | apply below_drew1 | refine below_set ?_ GE195.out) | exact HB.out)) hb); clear HO_4; clear HO_26; clear BK195; clear HB; have HO_4 := n0_; have HO_26 := n1_; have BK195 := n2_; have HB := n3_; clear n0_ n1_ n2_ n3_; (try clear hb); (try clear hb2); (try clear hk); (try clear hi); have hcz22_0 : w21.cell? ⟨gb195, 0, none⟩ = some (.int .i64 ((rd_T32 t188 x28_1).f0)) := (blk_cell BK195.out 0).trans rfl; have hcz22_1 : w21.cell? ⟨gb195, 1, none⟩ = some (.int .i64 ((rd_T32 t188 x28_1).f1)) := (blk_cell BK195.out 1).trans rfl; have hcz22_2 : w21.cell? ⟨gb195, 2, none⟩ = some (.string ((rd_T32 t188 x28_1).f2)) := (blk_cell BK195.out 2).trans rfl; have hcz22_3 : w21.cell? ⟨gb195, 3, none⟩ = some (.int .i64 ((rd_T32 t188 x28_1).f3.f0)) := (blk_cell BK195.out 3).trans rfl; have hcz22_4 : w21.cell? ⟨gb195, 4, none⟩ = some (.int .i64 ((rd_T32 t188 x28_1).f3.f1)) := (blk_cell BK195.out 4).trans rfl; have hfz22_0 := blk_frozen BK195.out 0; have hfz22_1 := blk_frozen BK195.out 1; have hfz22_2 := blk_frozen BK195.out 2; have hfz22_3 := blk_frozen BK195.out 3; have hfz22_4 := blk_frozen BK195.out 4) | (go_at_call 15; (with_reducible refine (cohousingref07_Skip.calls k1 (a0.extract 0 (((rd_T32 t188 x28_1).f1) : Int).toNat) x7_1 t197 _ A17.out).mono ?_); rintro e w' ⟨rfl, ⟨nd, rfl⟩⟩; (try first | exact ⟨rfl, _, World.drewN_drewN _ _ _⟩ | exact ⟨rfl, _, Eq.trans (World.drewN_drewN _ _ _) (congrArg (World.drewN _) (Nat.add_assoc _ _ _))⟩))))
                          go_roundg k1
                          case measure => have := HK1.out; omega
                          case rel => exact ⟨(wrap64 (((rd_T32 t188 x28_1).f1) + t196)), (wrap64 (x28_1 + 1)), (by first | rfl | (simp; done) | (simp [*]; done)), (by first | rfl | (simp; done) | (simp [*]; done)), H', ⟨by have := HK1.out; omega⟩, ⟨by (with_reducible repeat (first | apply Kd.R_alloc | apply Kd.R_drewN | apply Kd.R_drew)); exact Kd.R_mono HO_4.out (fun _ hk => trivial)⟩, ⟨by (with_reducible repeat (first | apply Kd.R_alloc | apply Kd.R_drewN | apply Kd.R_drew)); exact Kd.R_mono HO_26.out (fun _ hk => trivial)⟩, ⟨by repeat (first | (with_reducible first | exact HB.out | apply below_alloc | apply pw_below_drewN | apply below_drew1 | refine below_set ?_ GE195.out) | exact HB.out)⟩⟩
                        · rw [if_neg c18] at H
                          exact absurd H (by simp)
                      · rw [if_neg c16] at H
                        exact absurd H (by simp)
                    · rw [if_neg c15] at H
                      exact absurd H (by simp)
              · rw [if_neg c11] at H
                exact absurd H (by simp)
            · rw [if_neg c10] at H
              exact absurd H (by simp)
          · rw [if_neg c9] at H
            have c9b0 : decide (x28_1 < (t188.length : Int)) = false := decide_eq_false c9
            clear c9
            replace H : ((cohousingref07_Skip.f k1 a0 x7_1).bind fun t193 => (if t193 = (a0.size : Int) then (if (t188.length : Int) ≤ 2000 then (some true) else (none)) else (none))) = some r := by first | (rw [if_pos rfl] at H; exact H) | (rw [if_pos trivial] at H; exact H)
            replace H := Option.bind_eq_some_iff.mp H
            obtain ⟨t193, A230, H⟩ := H
            replace H : (if t193 = (a0.size : Int) then (if (t188.length : Int) ≤ 2000 then (some true) else (none)) else (none)) = some r := H
            have A23 := Aside0.mk A230
            clear A230
            by_cases c24 : t193 = (a0.size : Int)
            · rw [if_pos c24] at H
              have c24b0 : (t193 == (a0.size : Int)) = true := beq_iff_eq.mpr c24
              have c24b1 : (t193 != (a0.size : Int)) = false := bne_eq_false_iff_eq.mpr c24
              clear c24
              by_cases c25 : (t188.length : Int) ≤ 2000
              · rw [if_pos c25] at H
                have c25b0 : decide ((t188.length : Int) ≤ 2000) = true := decide_eq_true c25
                have c25b1 : decide (t188.length ≤ 2000) = true := decide_eq_true (by omega)
                clear c25
                obtain rfl := Option.some.inj H
                go_wp2_with (first | (go_at_call 15; (with_reducible refine (cohousingref07_Skip.calls k1 a0 x7_1 t193 _ A23.out).mono ?_); rintro e w' ⟨rfl, ⟨nd, rfl⟩⟩; (try first | exact ⟨rfl, _, World.drewN_drewN _ _ _⟩ | exact ⟨rfl, _, Eq.trans (World.drewN_drewN _ _ _) (congrArg (World.drewN _) (Nat.add_assoc _ _ _))⟩)))
                repeat (go_quiet (first | (go_at_call 15; (with_reducible refine (cohousingref07_Skip.calls k1 a0 x7_1 t193 _ A23.out).mono ?_); rintro e w' ⟨rfl, ⟨nd, rfl⟩⟩; (try first | exact ⟨rfl, _, World.drewN_drewN _ _ _⟩ | exact ⟨rfl, _, Eq.trans (World.drewN_drewN _ _ _) (congrArg (World.drewN _) (Nat.add_assoc _ _ _))⟩))); try go_wp2_with (first | (go_at_call 15; (with_reducible refine (cohousingref07_Skip.calls k1 a0 x7_1 t193 _ A23.out).mono ?_); rintro e w' ⟨rfl, ⟨nd, rfl⟩⟩; (try first | exact ⟨rfl, _, World.drewN_drewN _ _ _⟩ | exact ⟨rfl, _, Eq.trans (World.drewN_drewN _ _ _) (congrArg (World.drewN _) (Nat.add_assoc _ _ _))⟩))))
                go_ret
                exact ⟨by first | rfl | (simp [errW_none, errW_some] <;> rfl) | (simp [*, errW_none, errW_some] <;> rfl), by repeat (first | (with_reducible first | exact HB.out | apply below_alloc | apply pw_below_drewN | apply below_drew1) | exact HB.out)⟩
              · rw [if_neg c25] at H
                exact absurd H (by simp)
            · rw [if_neg c24] at H
              exact absurd H (by simp)
    · rw [if_neg c5] at H
      have c5b0 : (t189 == 0) = false := beq_eq_false_iff_ne.mpr c5
      have c5b1 : (t189 != 0) = true := bne_iff_ne.mpr c5
      by_cases c26 : (t188.length : Int) = 0
      · rw [if_pos c26] at H
        have c26b0 : ((t188.length : Int) == 0) = true := beq_iff_eq.mpr c26
        have c26b1 : ((t188.length : Int) != 0) = false := bne_eq_false_iff_eq.mpr c26
        clear c26
        obtain rfl := Option.some.inj H
        go_enter Tryd.func4, Tryd.ntmps4
        go_wp2_with (first | (go_at_call 10; (with_reducible refine (cohousinglaw07_head.calls  true _ A2.out).mono ?_); rintro e w27 ⟨rfl, hb⟩; have n0_ := Aside0.mk (below_step (by repeat (first | (with_reducible first | exact HB.out | apply below_alloc | apply pw_below_drewN | apply below_drew1) | exact HB.out)) hb); clear HB; have HB := n0_; clear n0_; (try clear hb); (try clear hb2); (try clear hk); (try clear hi)) | (go_at_call 11; (with_reducible refine (lexer_Lex.calls a0 t188 t189 t190 _ A4.out).mono ?_); rintro e w28 ⟨v191, rfl, ho0, hb⟩; have n0_ := Aside0.mk (Kd.R_lower ho0 (below_size (by repeat (first | (with_reducible first | exact HB.out | apply below_alloc | apply pw_below_drewN | apply below_drew1) | exact HB.out)))); have n1_ := Aside0.mk (below_step (by repeat (first | (with_reducible first | exact HB.out | apply below_alloc | apply pw_below_drewN | apply below_drew1) | exact HB.out)) hb); clear HB; have HO192 := n0_; have HB := n1_; clear n0_ n1_; (try clear hb); (try clear hb2); (try clear hk); (try clear hi); (try clear ho0); obtain ⟨Ao29, co29, eo29⟩ := Kd.R_slice HO192.out; subst eo29))
        repeat (go_quiet (first | (go_at_call 10; (with_reducible refine (cohousinglaw07_head.calls  true _ A2.out).mono ?_); rintro e w27 ⟨rfl, hb⟩; have n0_ := Aside0.mk (below_step (by repeat (first | (with_reducible first | exact HB.out | apply below_alloc | apply pw_below_drewN | apply below_drew1) | exact HB.out)) hb); clear HB; have HB := n0_; clear n0_; (try clear hb); (try clear hb2); (try clear hk); (try clear hi)) | (go_at_call 11; (with_reducible refine (lexer_Lex.calls a0 t188 t189 t190 _ A4.out).mono ?_); rintro e w28 ⟨v191, rfl, ho0, hb⟩; have n0_ := Aside0.mk (Kd.R_lower ho0 (below_size (by repeat (first | (with_reducible first | exact HB.out | apply below_alloc | apply pw_below_drewN | apply below_drew1) | exact HB.out)))); have n1_ := Aside0.mk (below_step (by repeat (first | (with_reducible first | exact HB.out | apply below_alloc | apply pw_below_drewN | apply below_drew1) | exact HB.out)) hb); clear HB; have HO192 := n0_; have HB := n1_; clear n0_ n1_; (try clear hb); (try clear hb2); (try clear hk); (try clear hi); (try clear ho0); obtain ⟨Ao29, co29, eo29⟩ := Kd.R_slice HO192.out; subst eo29)); try go_wp2_with (first | (go_at_call 10; (with_reducible refine (cohousinglaw07_head.calls  true _ A2.out).mono ?_); rintro e w27 ⟨rfl, hb⟩; have n0_ := Aside0.mk (below_step (by repeat (first | (with_reducible first | exact HB.out | apply below_alloc | apply pw_below_drewN | apply below_drew1) | exact HB.out)) hb); clear HB; have HB := n0_; clear n0_; (try clear hb); (try clear hb2); (try clear hk); (try clear hi)) | (go_at_call 11; (with_reducible refine (lexer_Lex.calls a0 t188 t189 t190 _ A4.out).mono ?_); rintro e w28 ⟨v191, rfl, ho0, hb⟩; have n0_ := Aside0.mk (Kd.R_lower ho0 (below_size (by repeat (first | (with_reducible first | exact HB.out | apply below_alloc | apply pw_below_drewN | apply below_drew1) | exact HB.out)))); have n1_ := Aside0.mk (below_step (by repeat (first | (with_reducible first | exact HB.out | apply below_alloc | apply pw_below_drewN | apply below_drew1) | exact HB.out)) hb); clear HB; have HO192 := n0_; have HB := n1_; clear n0_ n1_; (try clear hb); (try clear hb2); (try clear hk); (try clear hi); (try clear ho0); obtain ⟨Ao29, co29, eo29⟩ := Kd.R_slice HO192.out; subst eo29)))
        go_ret
        exact ⟨by first | rfl | (simp [errW_none, errW_some] <;> rfl) | (simp [*, errW_none, errW_some] <;> rfl), by repeat (first | (with_reducible first | exact HB.out | apply below_alloc | apply pw_below_drewN | apply below_drew1) | exact HB.out)⟩
      · rw [if_neg c26] at H
        exact absurd H (by simp)
  · replace c3 := Bool.eq_false_iff.mpr c3
    subst c3
    have H1 : (none) = some r := by rw [if_neg (show ¬ (false = true) by decide)] at H; exact H
    clear H
    have H := H1
    clear H1
    exact absurd H (by simp)

end Go.Proofs.YtmpjoaljincclaaDoor.X
