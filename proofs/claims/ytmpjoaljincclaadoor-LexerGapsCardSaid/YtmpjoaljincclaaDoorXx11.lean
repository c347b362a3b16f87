-- Written by a program of mine (wip/tools/xprint.py) over the kit's print.py: printed functions and hand-proved ones side by side.
import Derived.Test.YtmpjoaljincclaaDoorXx0
import Derived.Test.YtmpjoaljincclaaDoorXx6
import Derived.Test.YtmpjoaljincclaaDoorXx9
import Derived.Test.YtmpjoaljincclaaDoorXx10
namespace Go.Proofs.YtmpjoaljincclaaDoor.X
open Go.RowKit Go.Proofs.YtmpjoaljincclaaDoorW.PrintWords Go.Proofs.YtmpjoaljincclaaDoorW.PrintLast Go.Proofs.YtmpjoaljincclaaDoorW.PrintMore
attribute [local go_sem] max2_int min2_int max_two min_two max_three min_three max_four min_four   -- for this text's walks alone
set_option linter.unusedVariables false
set_option linter.unusedSimpArgs false

/-! ### cohousinglaw07_LexerGaps: function 5 -/
mutual
def cohousinglaw07_LexerGaps.j0 : Nat → ByteArray → Int → List Int → List (S32) → Bool → Option (Bool)
  | 0, _, _, _, _, _ => none
  | k + 1, x0, x1, x2, x8, x30 => if x30 = true then (some true) else (if (wrap64 ((x8.length : Int) + 1)) = 0 then (none) else (if (Int.tmod x1 (wrap64 ((x8.length : Int) + 1))) < 0 then (cohousinglaw07_LexerGaps.j1 k x0 x2 x8 (wrap64 ((Int.tmod x1 (wrap64 ((x8.length : Int) + 1))) + (wrap64 ((x8.length : Int) + 1))))) else (cohousinglaw07_LexerGaps.j1 k x0 x2 x8 (Int.tmod x1 (wrap64 ((x8.length : Int) + 1))))))
def cohousinglaw07_LexerGaps.j1 : Nat → ByteArray → List Int → List (S32) → Int → Option (Bool)
  | 0, _, _, _, _ => none
  | k + 1, x0, x2, x8, x11 => (cohousinglaw07_gap.f k x2).bind fun t195 => (if x11 < (x8.length : Int) then (if 0 ≤ x11 then (cohousinglaw07_LexerGaps.j2 k x0 x8 x11 t195 ((rd_T32 x8 x11).f1)) else (none)) else (if 1 + t195.size ≤ 9223372036854775807 then (cohousinglaw07_LexerGaps.j2 k x0 x8 x11 ((⟨#[10]⟩ : ByteArray) ++ t195) (x0.size : Int)) else (none)))
def cohousinglaw07_LexerGaps.j2 : Nat → ByteArray → List (S32) → Int → ByteArray → Int → Option (Bool)
  | 0, _, _, _, _, _ => none
  | k + 1, x0, x8, x11, x12, x13 => if x13 < 0 then (cohousinglaw07_LexerGaps.j3 k x0 x8 x11 x12 x13 true) else (cohousinglaw07_LexerGaps.j3 k x0 x8 x11 x12 x13 (decide (x13 > (x0.size : Int))))
def cohousinglaw07_LexerGaps.j3 : Nat → ByteArray → List (S32) → Int → ByteArray → Int → Bool → Option (Bool)
  | 0, _, _, _, _, _, _ => none
  | k + 1, x0, x8, x11, x12, x13, x66 => if x66 = true then (none) else (if 0 ≤ x13 then (if x13 ≤ (x0.size : Int) then (if (x13 : Int).toNat + x12.size ≤ 9223372036854775807 then (if (x13 : Int).toNat + x12.size + (x0.size - (x13 : Int).toNat) ≤ 9223372036854775807 then ((lexer_Lex.f (((x0.extract 0 (x13 : Int).toNat) ++ x12) ++ (x0.extract (x13 : Int).toNat x0.size))).bind fun bt197 => (if bt197.2.1 = 0 then (if (bt197.1.length : Int) = (x8.length : Int) then (if 0 ≤ x11 then (if x11 ≤ (x8.length : Int) then (if x11 ≤ (bt197.1.length : Int) then ((cohousingref07_Same.f (x8.take (x11 : Int).toNat) (bt197.1.take (x11 : Int).toNat) 0).bind fun t210 => (if t210 = true then ((cohousingref07_Same.f (x8.drop (x11 : Int).toNat) (bt197.1.drop (x11 : Int).toNat) (x12.size : Int)).bind fun t219 => (if t219 = true then (some true) else (none))) else (none))) else (none)) else (none)) else (none)) else (none)) else (none))) else (none)) else (none)) else (none)) else (none))
end
def cohousinglaw07_LexerGaps.f (k : Nat) (a0 : ByteArray) (a1 : Int) (l2 : List Int) : Option (Bool) := (cohousinglaw07_head.f).bind fun t189 => (if t189 = true then ((lexer_Lex.f a0).bind fun bt190 => (if bt190.2.1 = 0 then (cohousinglaw07_LexerGaps.j0 k a0 a1 l2 bt190.1 (decide ((a0.size : Int) > 7900))) else (cohousinglaw07_LexerGaps.j0 k a0 a1 l2 bt190.1 true))) else (none))
theorem cohousinglaw07_LexerGaps.mono_l : ∀ k, (∀ y0 y1 y2 y3 y4, LeO (cohousinglaw07_LexerGaps.j0 k y0 y1 y2 y3 y4) (cohousinglaw07_LexerGaps.j0 (k + 1) y0 y1 y2 y3 y4)) ∧ (∀ y0 y1 y2 y3, LeO (cohousinglaw07_LexerGaps.j1 k y0 y1 y2 y3) (cohousinglaw07_LexerGaps.j1 (k + 1) y0 y1 y2 y3)) ∧ (∀ y0 y1 y2 y3 y4, LeO (cohousinglaw07_LexerGaps.j2 k y0 y1 y2 y3 y4) (cohousinglaw07_LexerGaps.j2 (k + 1) y0 y1 y2 y3 y4)) ∧ (∀ y0 y1 y2 y3 y4 y5, LeO (cohousinglaw07_LexerGaps.j3 k y0 y1 y2 y3 y4 y5) (cohousinglaw07_LexerGaps.j3 (k + 1) y0 y1 y2 y3 y4 y5))
  | 0 => ⟨fun _ _ _ _ _ r h => by simp [cohousinglaw07_LexerGaps.j0] at h, fun _ _ _ _ r h => by simp [cohousinglaw07_LexerGaps.j1] at h, fun _ _ _ _ _ r h => by simp [cohousinglaw07_LexerGaps.j2] at h, fun _ _ _ _ _ _ r h => by simp [cohousinglaw07_LexerGaps.j3] at h⟩
  | k + 1 => by
    obtain ⟨ih0, ih1, ih2, ih3⟩ := cohousinglaw07_LexerGaps.mono_l k
    refine ⟨?_, ?_, ?_, ?_⟩
    · intro y0 y1 y2 y3 y4
      unfold cohousinglaw07_LexerGaps.j0
      repeat' first
      | (with_reducible exact ih0 _ _ _ _ _)
      | (with_reducible exact ih1 _ _ _ _)
      | (with_reducible exact ih2 _ _ _ _ _)
      | (with_reducible exact ih3 _ _ _ _ _ _)
      | (with_reducible exact cohousinglaw07_gap.mono _ _)
      | (with_reducible exact LeO.refl _)
      | (with_reducible exact LeO.none _)
      | (with_reducible refine LeO.ite ?_ ?_)
      | (with_reducible refine LeO.bind ?_ (fun _ => ?_))
      | exact ih0 _ _ _ _ _
      | exact ih1 _ _ _ _
      | exact ih2 _ _ _ _ _
      | exact ih3 _ _ _ _ _ _
      | exact cohousinglaw07_gap.mono _ _
      | exact LeO.none _
      | refine LeO.ite ?_ ?_
      | refine LeO.bind ?_ (fun _ => ?_)
    · intro y0 y1 y2 y3
      unfold cohousinglaw07_LexerGaps.j1
      repeat' first
      | (with_reducible exact ih0 _ _ _ _ _)
      | (with_reducible exact ih1 _ _ _ _)
      | (with_reducible exact ih2 _ _ _ _ _)
      | (with_reducible exact ih3 _ _ _ _ _ _)
      | (with_reducible exact cohousinglaw07_gap.mono _ _)
      | (with_reducible exact LeO.refl _)
      | (with_reducible exact LeO.none _)
      | (with_reducible refine LeO.ite ?_ ?_)
      | (with_reducible refine LeO.bind ?_ (fun _ => ?_))
      | exact ih0 _ _ _ _ _
      | exact ih1 _ _ _ _
      | exact ih2 _ _ _ _ _
      | exact ih3 _ _ _ _ _ _
      | exact cohousinglaw07_gap.mono _ _
      | exact LeO.none _
      | refine LeO.ite ?_ ?_
      | refine LeO.bind ?_ (fun _ => ?_)
    · intro y0 y1 y2 y3 y4
      unfold cohousinglaw07_LexerGaps.j2
      repeat' first
      | (with_reducible exact ih0 _ _ _ _ _)
      | (with_reducible exact ih1 _ _ _ _)
      | (with_reducible exact ih2 _ _ _ _ _)
      | (with_reducible exact ih3 _ _ _ _ _ _)
      | (with_reducible exact cohousinglaw07_gap.mono _ _)
      | (with_reducible exact LeO.refl _)
      | (with_reducible exact LeO.none _)
      | (with_reducible refine LeO.ite ?_ ?_)
      | (with_reducible refine LeO.bind ?_ (fun _ => ?_))
      | exact ih0 _ _ _ _ _
      | exact ih1 _ _ _ _
      | exact ih2 _ _ _ _ _
      | exact ih3 _ _ _ _ _ _
      | exact cohousinglaw07_gap.mono _ _
      | exact LeO.none _
      | refine LeO.ite ?_ ?_
      | refine LeO.bind ?_ (fun _ => ?_)
    · intro y0 y1 y2 y3 y4 y5
      unfold cohousinglaw07_LexerGaps.j3
      repeat' first
      | (with_reducible exact ih0 _ _ _ _ _)
      | (with_reducible exact ih1 _ _ _ _)
      | (with_reducible exact ih2 _ _ _ _ _)
      | (with_reducible exact ih3 _ _ _ _ _ _)
      | (with_reducible exact cohousinglaw07_gap.mono _ _)
      | (with_reducible exact LeO.refl _)
      | (with_reducible exact LeO.none _)
      | (with_reducible refine LeO.ite ?_ ?_)
      | (with_reducible refine LeO.bind ?_ (fun _ => ?_))
      | exact ih0 _ _ _ _ _
      | exact ih1 _ _ _ _
      | exact ih2 _ _ _ _ _
      | exact ih3 _ _ _ _ _ _
      | exact cohousinglaw07_gap.mono _ _
      | exact LeO.none _
      | refine LeO.ite ?_ ?_
      | refine LeO.bind ?_ (fun _ => ?_)
theorem cohousinglaw07_LexerGaps.mono : ∀ a0 a1 a2 k, LeO (cohousinglaw07_LexerGaps.f k a0 a1 a2) (cohousinglaw07_LexerGaps.f (k + 1) a0 a1 a2) := by
  intro a0 a1 a2 k
  obtain ⟨ih0, ih1, ih2, ih3⟩ := cohousinglaw07_LexerGaps.mono_l k
  unfold cohousinglaw07_LexerGaps.f
  repeat' first
      | (with_reducible exact ih0 _ _ _ _ _)
      | (with_reducible exact ih1 _ _ _ _)
      | (with_reducible exact ih2 _ _ _ _ _)
      | (with_reducible exact ih3 _ _ _ _ _ _)
      | (with_reducible exact cohousinglaw07_gap.mono _ _)
      | (with_reducible exact LeO.refl _)
      | (with_reducible exact LeO.none _)
      | (with_reducible refine LeO.ite ?_ ?_)
      | (with_reducible refine LeO.bind ?_ (fun _ => ?_))
      | exact ih0 _ _ _ _ _
      | exact ih1 _ _ _ _
      | exact ih2 _ _ _ _ _
      | exact ih3 _ _ _ _ _ _
      | exact cohousinglaw07_gap.mono _ _
      | exact LeO.none _
      | refine LeO.ite ?_ ?_
      | refine LeO.bind ?_ (fun _ => ?_)
def cohousinglaw07_LexerGaps.T14 : Bool × List (List Nat × List Nat) := (true, [([], []), ([], []), ([0, 1], [0, 1]), ([], []), ([2, 3], [2, 3]), ([], []), ([], []), ([5, 6], [5, 6]), ([4, 7], [4, 7]), ([8], [8]), ([9], [9]), ([10], [10]), ([10], [10]), ([10], [10]), ([11, 9, 0, 1, 2, 3, 4, 5, 6, 7, 8, 9, 10, 11], [11]), ([12, 14, 0, 1, 2, 3, 4, 5, 6, 7, 8, 9, 10, 11, 12, 14], [12]), ([13, 15, 0, 1, 2, 3, 4, 5, 6, 7, 8, 9, 10, 11, 12, 13, 14, 15], [13])])
def cohousinglaw07_LexerGaps.B14 : List Nat := [0, 0, 3, 0, 15, 0, 0, 96, 255, 511, 1023, 2047, 2047, 2047, 4095, 24575, 65535]
theorem cohousinglaw07_LexerGaps.tab14 : rtab .any (opsOf Tryd.f5 14) = cohousinglaw07_LexerGaps.T14 := by kernel_rfl
theorem cohousinglaw07_LexerGaps.bits14 : waitsOk cohousinglaw07_LexerGaps.T14.2 cohousinglaw07_LexerGaps.B14 = true := by kernel_rfl
def cohousinglaw07_LexerGaps.T15 : Bool × List (List Nat × List Nat) := (true, [([], []), ([0], [0]), ([1], [1]), ([2, 1], [1, 2]), ([1, 3], [1, 3]), ([4, 1], [4]), ([5], [5]), ([6, 5], [5, 6]), ([5], [5]), ([8, 5], [5, 8]), ([7, 9, 5], [5, 7, 9]), ([5, 10], [5, 10]), ([11, 5], [11]), ([12], [12]), ([12], [12]), ([13, 14, 12], [12, 13, 14]), ([12], [12]), ([12], [12]), ([16, 17, 12], [12, 16, 17]), ([15, 18, 12, 12], [12, 15, 18]), ([12, 19], [12, 19]), ([20, 19], [20]), ([21], [21]), ([21], [21]), ([22, 23, 21], [21, 22, 23]), ([21], [21]), ([21], [21]), ([25, 26, 21], [21, 25, 26]), ([21], [21]), ([28, 21], [21, 28]), ([24, 27, 29, 21, 21], [21, 24, 27, 29]), ([21, 30], [21, 30]), ([31, 30, 0, 1, 2, 3, 4, 5, 6, 7, 8, 9, 10, 11, 12, 13, 14, 15, 16, 17, 18, 19, 20, 21, 22, 23, 24, 25, 26, 27, 28, 29, 30, 31], [31])])
def cohousinglaw07_LexerGaps.B15 : List Nat := [0, 1, 3, 7, 15, 31, 63, 127, 63, 319, 1023, 2047, 4095, 8191, 8191, 32767, 8191, 8191, 204799, 524287, 1048575, 2097151, 4194303, 4194303, 16777215, 4194303, 4194303, 104857599, 4194303, 272629759, 1073741823, 2147483647, 4294967295]
theorem cohousinglaw07_LexerGaps.tab15 : rtab .any (opsOf Tryd.f5 15) = cohousinglaw07_LexerGaps.T15 := by kernel_rfl
theorem cohousinglaw07_LexerGaps.bits15 : waitsOk cohousinglaw07_LexerGaps.T15.2 cohousinglaw07_LexerGaps.B15 = true := by kernel_rfl
set_option maxHeartbeats 8000000 in
set_option maxRecDepth 100000 in
theorem cohousinglaw07_LexerGaps.calls (k : Nat) (a0 : ByteArray) (a1 : Int) (A2 : Option Addr) (c2 : Nat) (l2 : List Int) (r : Bool) (w : World) (hr2 : Kd.C (Kd.int .u8) w A2 l2.length l2) (hc2 : l2.length ≤ c2) (h : cohousinglaw07_LexerGaps.f k a0 a1 l2 = some r) :
    Calls Tryd.prog 5 #[.string a0, .int .i64 a1, .slice A2 l2.length c2] w fun e w' => e = .returned (.bool r) ∧ Below w.heap.size w w' := by
  have HR2 := Aside0.mk hr2
  have HC2 := Aside0.mk hc2
  clear hr2 hc2
  have HB := Aside0.mk (Below.refl w.heap.size w)
  have H : ((cohousinglaw07_head.f).bind fun t189 => (if t189 = true then ((lexer_Lex.f a0).bind fun bt190 => (if bt190.2.1 = 0 then (cohousinglaw07_LexerGaps.j0 k a0 a1 l2 bt190.1 (decide ((a0.size : Int) > 7900))) else (cohousinglaw07_LexerGaps.j0 k a0 a1 l2 bt190.1 true))) else (none))) = some r := h
  clear h
  replace H := Option.bind_eq_some_iff.mp H
  obtain ⟨t189, A40, H⟩ := H
  replace H : (if t189 = true then ((lexer_Lex.f a0).bind fun bt190 => (if bt190.2.1 = 0 then (cohousinglaw07_LexerGaps.j0 k a0 a1 l2 bt190.1 (decide ((a0.size : Int) > 7900))) else (cohousinglaw07_LexerGaps.j0 k a0 a1 l2 bt190.1 true))) else (none)) = some r := H
  have A4 := Aside0.mk A40
  clear A40
  by_cases c5 : t189 = true
  · subst c5
    have H1 : ((lexer_Lex.f a0).bind fun bt190 => (if bt190.2.1 = 0 then (cohousinglaw07_LexerGaps.j0 k a0 a1 l2 bt190.1 (decide ((a0.size : Int) > 7900))) else (cohousinglaw07_LexerGaps.j0 k a0 a1 l2 bt190.1 true))) = some r := by rw [if_pos rfl] at H; exact H
    clear H
    have H := H1
    clear H1
    replace H := Option.bind_eq_some_iff.mp H
    obtain ⟨⟨t190, t191, t192⟩, A60, H⟩ := H
    replace H : (if t191 = 0 then (cohousinglaw07_LexerGaps.j0 k a0 a1 l2 t190 (decide ((a0.size : Int) > 7900))) else (cohousinglaw07_LexerGaps.j0 k a0 a1 l2 t190 true)) = some r := H
    have A6 := Aside0.mk A60
    clear A60
    have HC7 := Aside0.mk H
    clear H
    go_enter Tryd.func5, Tryd.ntmps5
    go_upto_region 3 with (first | ((with_reducible refine gate_callee (f := 10) rfl ?_); refine goesL_ (some 17) rfl rfl Tryd.func10 (by kernel_rfl) rfl #[] rfl (by (try simp only [List.map_toArray, List.map_cons, List.map_nil]); first | done | rfl | (simp only [List.length_drop, List.length_take]; rfl)) ?_; (with_reducible refine (cohousinglaw07_head.calls  true _ A4.out).mono ?_); rintro e w8 ⟨rfl, hb⟩; refine ⟨_, rfl, ?_⟩; have n0_ := Aside0.mk (below_step (by repeat (first | (with_reducible first | exact HB.out | apply below_alloc | apply pw_below_drewN | apply below_drew1) | exact HB.out)) hb); clear HB; have HB := n0_; clear n0_; (try clear hb); (try clear hb2); (try clear hk); (try clear hi)) | ((with_reducible refine gate_callee (f := 11) rfl ?_); refine goesL_ (some 20) rfl rfl Tryd.func11 (by kernel_rfl) rfl #[.string a0] rfl (by (try simp only [List.map_toArray, List.map_cons, List.map_nil]); first | done | rfl | (simp only [List.length_drop, List.length_take]; rfl)) ?_; (with_reducible refine (lexer_Lex.calls a0 t190 t191 t192 _ A6.out).mono ?_); rintro e w9 ⟨v193, rfl, ho0, hb⟩; refine ⟨_, rfl, ?_⟩; have n0_ := Aside0.mk (Kd.R_lower ho0 (below_size (by repeat (first | (with_reducible first | exact HB.out | apply below_alloc | apply pw_below_drewN | apply below_drew1) | exact HB.out)))); have n1_ := Aside0.mk (below_step (by repeat (first | (with_reducible first | exact HB.out | apply below_alloc | apply pw_below_drewN | apply below_drew1) | exact HB.out)) hb); clear HB; have HO194 := n0_; have HB := n1_; clear n0_ n1_; (try clear hb); (try clear hb2); (try clear hk); (try clear hi); (try clear ho0)))
    (try simp only [Act.put, List.setIfInBounds_toArray, List.set_cons_zero, List.set_cons_succ])
    go_cut [30] (fun v30 wc => ∃ (kq : Nat) (x30_6 : Bool), v30 = .bool x30_6 ∧ Aside0 (cohousinglaw07_LexerGaps.j0 kq a0 a1 l2 t190 x30_6 = some r) ∧ Aside0 (kq ≤ k) ∧ Aside0 (Kd.R k32 32 wc w.heap.size (fun _ => True) v193 t190) ∧ Aside0 (Below w.heap.size w wc))
    case first =>
      have H := HC7.out
      clear HC7
      by_cases c10 : t191 = 0
      · rw [if_pos c10] at H
        have c10b0 : (t191 == 0) = true := beq_iff_eq.mpr c10
        have c10b1 : (t191 != 0) = false := bne_eq_false_iff_eq.mpr c10
        clear c10
        (first | rw [c10b0] | (simp only [i64_w, i32_w]; rw [c10b0]) | skip)
        have H' := Aside0.mk H
        clear H
        go_wp2
        go_meet
        case rel => exact ⟨_, (decide ((a0.size : Int) > 7900)), (by first | rfl | (simp; done) | (simp [*]; done)), H', ⟨by first | omega | exact Nat.le_refl _⟩, ⟨by (with_reducible repeat (first | apply Kd.R_alloc | apply Kd.R_drewN | apply Kd.R_drew)); exact HO194.out⟩, ⟨by repeat (first | (with_reducible first | exact HB.out | apply below_alloc | apply pw_below_drewN | apply below_drew1) | exact HB.out)⟩⟩
      · rw [if_neg c10] at H
        have c10b0 : (t191 == 0) = false := beq_eq_false_iff_ne.mpr c10
        have c10b1 : (t191 != 0) = true := bne_iff_ne.mpr c10
        (first | rw [c10b0] | (simp only [i64_w, i32_w]; rw [c10b0]) | skip)
        have H' := Aside0.mk H
        clear H
        go_wp2
        go_meet
        case rel => exact ⟨_, (true), (by first | rfl | (simp; done) | (simp [*]; done)), H', ⟨by first | omega | exact Nat.le_refl _⟩, ⟨by (with_reducible repeat (first | apply Kd.R_alloc | apply Kd.R_drewN | apply Kd.R_drew)); exact HO194.out⟩, ⟨by repeat (first | (with_reducible first | exact HB.out | apply below_alloc | apply pw_below_drewN | apply below_drew1) | exact HB.out)⟩⟩
    case rest =>
      clear HC7
      try clear c1
      try clear c2
      try clear p2
      try clear c5
      try clear c10
      try clear c10b0
      try clear c10b1
      obtain ⟨kq, x30_6, rfl, HA, HJ6, HO_8, HB⟩ := hcut
      cases kq with
      | zero => exact absurd HA.out (by simp [cohousinglaw07_LexerGaps.j0])
      | succ kj6 =>
        have H := HA.out
        clear HA
        simp only [cohousinglaw07_LexerGaps.j0] at H
        by_cases c11 : x30_6 = true
        · subst c11
          have H1 : (some true) = some r := by rw [if_pos rfl] at H; exact H
          clear H
          have H := H1
          clear H1
          obtain rfl := Option.some.inj H
          go_wp2
          go_ret
          exact ⟨by first | rfl | (simp [errW_none, errW_some] <;> rfl) | (simp [*, errW_none, errW_some] <;> rfl), by repeat (first | (with_reducible first | exact HB.out | apply below_alloc | apply pw_below_drewN | apply below_drew1) | exact HB.out)⟩
        · replace c11 := Bool.eq_false_iff.mpr c11
          subst c11
          have H1 : (if (wrap64 ((t190.length : Int) + 1)) = 0 then (none) else (if (Int.tmod a1 (wrap64 ((t190.length : Int) + 1))) < 0 then (cohousinglaw07_LexerGaps.j1 kj6 a0 l2 t190 (wrap64 ((Int.tmod a1 (wrap64 ((t190.length : Int) + 1))) + (wrap64 ((t190.length : Int) + 1))))) else (cohousinglaw07_LexerGaps.j1 kj6 a0 l2 t190 (Int.tmod a1 (wrap64 ((t190.length : Int) + 1)))))) = some r := by rw [if_neg (show ¬ (false = true) by decide)] at H; exact H
          clear H
          have H := H1
          clear H1
          by_cases c12 : (wrap64 ((t190.length : Int) + 1)) = 0
          · rw [if_pos c12] at H
            exact absurd H (by simp)
          · rw [if_neg c12] at H
            have c12b0 : ((wrap64 ((t190.length : Int) + 1)) == 0) = false := beq_eq_false_iff_ne.mpr c12
            have c12b1 : ((wrap64 ((t190.length : Int) + 1)) != 0) = true := bne_iff_ne.mpr c12
            have HC13 := Aside0.mk H
            clear H
            obtain ⟨Ao14, co14, eo14⟩ := Kd.R_slice HO_8.out
            subst eo14
            go_upto_if 38 with (fail)
            go_cut [11] (fun v11 wc => ∃ (kq : Nat) (x11_12 : Int), v11 = .int .i64 x11_12 ∧ Aside0 (cohousinglaw07_LexerGaps.j1 kq a0 l2 t190 x11_12 = some r) ∧ Aside0 (kq ≤ kj6) ∧ Aside0 (Kd.R k32 32 wc w.heap.size (fun _ => True) (.slice Ao14 t190.length co14) t190) ∧ Aside0 (Below w.heap.size w wc))
            case first =>
              have H := HC13.out
              clear HC13
              by_cases c15 : (Int.tmod a1 (wrap64 ((t190.length : Int) + 1))) < 0
              · rw [if_pos c15] at H
                have c15b0 : decide ((Int.tmod a1 (wrap64 ((t190.length : Int) + 1))) < 0) = true := decide_eq_true c15
                clear c15
                (first | rw [c15b0] | (simp only [i64_w, i32_w]; rw [c15b0]) | skip)
                have H' := Aside0.mk H
                clear H
                go_wp2
                go_meet
                case rel => exact ⟨_, (wrap64 ((Int.tmod a1 (wrap64 ((t190.length : Int) + 1))) + (wrap64 ((t190.length : Int) + 1)))), (by first | rfl | (simp; done) | (simp [*]; done)), H', ⟨by have := HJ6.out; first | omega | exact Nat.le_refl _⟩, ⟨by (with_reducible repeat (first | apply Kd.R_alloc | apply Kd.R_drewN | apply Kd.R_drew)); exact HO_8.out⟩, ⟨by repeat (first | (with_reducible first | exact HB.out | apply below_alloc | apply pw_below_drewN | apply below_drew1) | exact HB.out)⟩⟩
              · rw [if_neg c15] at H
                have c15b0 : decide ((Int.tmod a1 (wrap64 ((t190.length : Int) + 1))) < 0) = false := decide_eq_false c15
                clear c15
                (first | rw [c15b0] | (simp only [i64_w, i32_w]; rw [c15b0]) | skip)
                have H' := Aside0.mk H
                clear H
                go_wp2
                go_meet
                case rel => exact ⟨_, (Int.tmod a1 (wrap64 ((t190.length : Int) + 1))), (by first | rfl | (simp; done) | (simp [*]; done)), H', ⟨by have := HJ6.out; first | omega | exact Nat.le_refl _⟩, ⟨by (with_reducible repeat (first | apply Kd.R_alloc | apply Kd.R_drewN | apply Kd.R_drew)); exact HO_8.out⟩, ⟨by repeat (first | (with_reducible first | exact HB.out | apply below_alloc | apply pw_below_drewN | apply below_drew1) | exact HB.out)⟩⟩
            case rest =>
              clear HC13
              try clear c1
              try clear c2
              try clear p2
              try clear c5
              try clear p6
              try clear c10
              try clear c10b0
              try clear c10b1
              try clear c11
              try clear c12
              try clear c12b0
              try clear c12b1
              try clear c15
              try clear c15b0
              try clear p2
              obtain ⟨kq, x11_12, rfl, HA, HJ12, HO_8, HB⟩ := hcut
              cases kq with
              | zero => exact absurd HA.out (by simp [cohousinglaw07_LexerGaps.j1])
              | succ kj12 =>
                have H := HA.out
                clear HA
                simp only [cohousinglaw07_LexerGaps.j1] at H
                replace H := Option.bind_eq_some_iff.mp H
                obtain ⟨t195, A160, H⟩ := H
                replace H : (if x11_12 < (t190.length : Int) then (if 0 ≤ x11_12 then (cohousinglaw07_LexerGaps.j2 kj12 a0 t190 x11_12 t195 ((rd_T32 t190 x11_12).f1)) else (none)) else (if 1 + t195.size ≤ 9223372036854775807 then (cohousinglaw07_LexerGaps.j2 kj12 a0 t190 x11_12 ((⟨#[10]⟩ : ByteArray) ++ t195) (a0.size : Int)) else (none))) = some r := H
                have A16 := Aside0.mk A160
                clear A160
                have HC17 := Aside0.mk H
                clear H
                go_upto_if 51 with (first | ((with_reducible refine gate_callee (f := 16) rfl ?_); refine goesL_ (some 45) rfl rfl Tryd.func16 (by kernel_rfl) rfl #[.slice A2 l2.length c2] rfl (by (try simp only [List.map_toArray, List.map_cons, List.map_nil]); first | done | rfl | (simp only [List.length_drop, List.length_take]; rfl)) ?_; (with_reducible refine (cohousinglaw07_gap.calls kj12 _ _ l2 t195 _ ?side1 ?side2 A16.out).mono ?_); (case side1 => repeat (first | exact (Kd.C_below HR2.out HB.out) | (with_reducible refine Kd.C_alloc ?_ _) | (with_reducible refine Kd.C_drewN ?_ _) | (with_reducible refine Kd.C_drew ?_))); (case side2 => exact HC2.out); rintro e w18 ⟨rfl, hb⟩; refine ⟨_, rfl, ?_⟩; have n0_ := Aside0.mk (Kd.R_below (by (with_reducible repeat (first | apply Kd.R_alloc | apply Kd.R_drewN | apply Kd.R_drew)); exact HO_8.out) hb); have n1_ := Aside0.mk (below_step (by repeat (first | (with_reducible first | exact HB.out | apply below_alloc | apply pw_below_drewN | apply below_drew1) | exact HB.out)) hb); clear HO_8; clear HB; have HO_8 := n0_; have HB := n1_; clear n0_ n1_; (try clear hb); (try clear hb2); (try clear hk); (try clear hi)))
                (try simp only [Act.put, List.setIfInBounds_toArray, List.set_cons_zero, List.set_cons_succ])
                go_cut [12, 13] (fun v12 v13 wc => ∃ (kq : Nat) (x12_16 : ByteArray) (x13_16 : Int), v12 = .string x12_16 ∧ v13 = .int .i64 x13_16 ∧ Aside0 (cohousinglaw07_LexerGaps.j2 kq a0 t190 x11_12 x12_16 x13_16 = some r) ∧ Aside0 (kq ≤ kj12) ∧ Aside0 (Kd.R k32 32 wc w.heap.size (fun _ => True) (.slice Ao14 t190.length co14) t190) ∧ Aside0 (Below w.heap.size w wc))
                case first =>
                  have H := HC17.out
                  clear HC17
                  by_cases c19 : x11_12 < (t190.length : Int)
                  · rw [if_pos c19] at H
                    have c19b0 : decide (x11_12 < (t190.length : Int)) = true := decide_eq_true c19
                    clear c19
                    (first | rw [c19b0] | (simp only [i64_w, i32_w]; rw [c19b0]) | skip)
                    by_cases c20 : 0 ≤ x11_12
                    · rw [if_pos c20] at H
                      have c20b0 : decide (0 ≤ x11_12) = true := decide_eq_true c20
                      clear c20
                      have H' := Aside0.mk H
                      clear H
                      have p196 : 0 ≤ (x11_12 : Int) := of_decide_eq_true (by first | (with_reducible assumption) | assumption)
                      have q196 : x11_12 < (t190.length : Int) := of_decide_eq_true (by first | (with_reducible assumption) | assumption)
                      obtain ⟨ad196, e196, hx196_0, hx196_1, hx196_2, hx196_3, hx196_4⟩ := at_T32 (Kd.R_reads' HO_8.out).2.2 x11_12 p196 q196
                      cases e196
                      replace p196 := eq_true p196
                      replace q196 := eq_true q196
                      go_wp2
                      go_meet
                      case rel => exact ⟨_, (t195), ((rd_T32 t190 x11_12).f1), (by first | rfl | (simp; done) | (simp [*]; done)), (by first | rfl | (simp; done) | (simp [*]; done)), H', ⟨by have := HJ6.out; have := HJ12.out; first | omega | exact Nat.le_refl _⟩, ⟨by (with_reducible repeat (first | apply Kd.R_alloc | apply Kd.R_drewN | apply Kd.R_drew)); exact HO_8.out⟩, ⟨by repeat (first | (with_reducible first | exact HB.out | apply below_alloc | apply pw_below_drewN | apply below_drew1) | exact HB.out)⟩⟩
                    · rw [if_neg c20] at H
                      exact absurd H (by simp)
                  · rw [if_neg c19] at H
                    have c19b0 : decide (x11_12 < (t190.length : Int)) = false := decide_eq_false c19
                    clear c19
                    (first | rw [c19b0] | (simp only [i64_w, i32_w]; rw [c19b0]) | skip)
                    by_cases c21 : 1 + t195.size ≤ 9223372036854775807
                    · rw [if_pos c21] at H
                      have c21b0 := eq_true c21
                      have c21b1 : decide (1 + t195.size ≤ 9223372036854775807) = true := decide_eq_true c21
                      try have c21b2 : (9223372036854775807 < 1 + t195.size) = False := eq_false (Nat.not_lt.2 c21)
                      have H' := Aside0.mk H
                      clear H
                      go_wp2
                      go_meet
                      case rel => exact ⟨_, ((⟨#[10]⟩ : ByteArray) ++ t195), ((a0.size : Int)), (by first | rfl | (simp; done) | (simp [*]; done)), (by first | rfl | (simp; done) | (simp [*]; done)), H', ⟨by have := HJ6.out; have := HJ12.out; first | omega | exact Nat.le_refl _⟩, ⟨by (with_reducible repeat (first | apply Kd.R_alloc | apply Kd.R_drewN | apply Kd.R_drew)); exact HO_8.out⟩, ⟨by repeat (first | (with_reducible first | exact HB.out | apply below_alloc | apply pw_below_drewN | apply below_drew1) | exact HB.out)⟩⟩
                    · rw [if_neg c21] at H
                      exact absurd H (by simp)
                case rest =>
                  clear HC17
                  try clear c1
                  try clear p1
                  try clear q1
                  try clear hx1
                  try clear c2
                  try clear p2
                  try clear c5
                  try clear p6
                  try clear c10
                  try clear c10b0
                  try clear c10b1
                  try clear c11
                  try clear c12
                  try clear c12b0
                  try clear c12b1
                  try clear c15
                  try clear c15b0
                  try clear c16
                  try clear c19
                  try clear c19b0
                  try clear p19
                  try clear q19
                  try clear hx19
                  try clear c20
                  try clear c20b0
                  try clear c21
                  try clear c21b0
                  try clear c21b1
                  try clear c21b2
                  try clear hx196_0
                  try clear hx196_1
                  try clear hx196_2
                  try clear hx196_3
                  try clear hx196_4
                  try clear p196
                  try clear p2
                  try clear p6
                  try clear q196
                  obtain ⟨kq, x12_16, x13_16, rfl, rfl, HA, HJ16, HO_8, HB⟩ := hcut
                  cases kq with
                  | zero => exact absurd HA.out (by simp [cohousinglaw07_LexerGaps.j2])
                  | succ kj16 =>
                    have H := HA.out
                    clear HA
                    simp only [cohousinglaw07_LexerGaps.j2] at H
                    have HC22 := Aside0.mk H
                    clear H
                    go_upto_region 12 with (fail)
                    go_cut [66] (fun v66 wc => ∃ (kq : Nat) (x66_21 : Bool), v66 = .bool x66_21 ∧ Aside0 (cohousinglaw07_LexerGaps.j3 kq a0 t190 x11_12 x12_16 x13_16 x66_21 = some r) ∧ Aside0 (kq ≤ kj16) ∧ Aside0 (Kd.R k32 32 wc w.heap.size (fun _ => True) (.slice Ao14 t190.length co14) t190) ∧ Aside0 (Below w.heap.size w wc))
                    case first =>
                      have H := HC22.out
                      clear HC22
                      by_cases c23 : x13_16 < 0
                      · rw [if_pos c23] at H
                        have c23b0 : decide (x13_16 < 0) = true := decide_eq_true c23
                        clear c23
                        (first | rw [c23b0] | (simp only [i64_w, i32_w]; rw [c23b0]) | skip)
                        have H' := Aside0.mk H
                        clear H
                        go_wp2
                        go_meet
                        case rel => exact ⟨_, (true), (by first | rfl | (simp; done) | (simp [*]; done)), H', ⟨by have := HJ6.out; have := HJ12.out; have := HJ16.out; first | omega | exact Nat.le_refl _⟩, ⟨by (with_reducible repeat (first | apply Kd.R_alloc | apply Kd.R_drewN | apply Kd.R_drew)); exact HO_8.out⟩, ⟨by repeat (first | (with_reducible first | exact HB.out | apply below_alloc | apply pw_below_drewN | apply below_drew1) | exact HB.out)⟩⟩
                      · rw [if_neg c23] at H
                        have c23b0 : decide (x13_16 < 0) = false := decide_eq_false c23
                        clear c23
                        (first | rw [c23b0] | (simp only [i64_w, i32_w]; rw [c23b0]) | skip)
                        have H' := Aside0.mk H
                        clear H
                        go_wp2
                        go_meet
                        case rel => exact ⟨_, (decide (x13_16 > (a0.size : Int))), (by first | rfl | (simp; done) | (simp [*]; done)), H', ⟨by have := HJ6.out; have := HJ12.out; have := HJ16.out; first | omega | exact Nat.le_refl _⟩, ⟨by (with_reducible repeat (first | apply Kd.R_alloc | apply Kd.R_drewN | apply Kd.R_drew)); exact HO_8.out⟩, ⟨by repeat (first | (with_reducible first | exact HB.out | apply below_alloc | apply pw_below_drewN | apply below_drew1) | exact HB.out)⟩⟩
                    case rest =>
                      clear HC22
                      try clear c1
                      try clear p1
                      try clear q1
                      try clear hx1
                      try clear c2
                      try clear p2
                      try clear c5
                      try clear p6
                      try clear c10
                      try clear c10b0
                      try clear c10b1
                      try clear c11
                      try clear c12
                      try clear c12b0
                      try clear c12b1
                      try clear c15
                      try clear c15b0
                      try clear c16
                      try clear c19
                      try clear c19b0
                      try clear p19
                      try clear q19
                      try clear hx19
                      try clear c20
                      try clear c20b0
                      try clear c21
                      try clear c21b0
                      try clear c21b1
                      try clear c21b2
                      try clear c23
                      try clear c23b0
                      try clear hx196_0
                      try clear hx196_1
                      try clear hx196_2
                      try clear hx196_3
                      try clear hx196_4
                      try clear p1
                      try clear p19
                      try clear p196
                      try clear p2
                      try clear p6
                      try clear q1
                      try clear q19
                      try clear q196
                      obtain ⟨kq, x66_21, rfl, HA, HJ21, HO_8, HB⟩ := hcut
                      cases kq with
                      | zero => exact absurd HA.out (by simp [cohousinglaw07_LexerGaps.j3])
                      | succ kj21 =>
                        have H := HA.out
                        clear HA
                        simp only [cohousinglaw07_LexerGaps.j3] at H
                        by_cases c24 : x66_21 = true
                        · subst c24
                          have H1 : (none) = some r := by rw [if_pos rfl] at H; exact H
                          clear H
                          have H := H1
                          clear H1
                          exact absurd H (by simp)
                        · replace c24 := Bool.eq_false_iff.mpr c24
                          subst c24
                          have H1 : (if 0 ≤ x13_16 then (if x13_16 ≤ (a0.size : Int) then (if (x13_16 : Int).toNat + x12_16.size ≤ 9223372036854775807 then (if (x13_16 : Int).toNat + x12_16.size + (a0.size - (x13_16 : Int).toNat) ≤ 9223372036854775807 then ((lexer_Lex.f (((a0.extract 0 (x13_16 : Int).toNat) ++ x12_16) ++ (a0.extract (x13_16 : Int).toNat a0.size))).bind fun bt197 => (if bt197.2.1 = 0 then (if (bt197.1.length : Int) = (t190.length : Int) then (if 0 ≤ x11_12 then (if x11_12 ≤ (t190.length : Int) then (if x11_12 ≤ (bt197.1.length : Int) then ((cohousingref07_Same.f (t190.take (x11_12 : Int).toNat) (bt197.1.take (x11_12 : Int).toNat) 0).bind fun t210 => (if t210 = true then ((cohousingref07_Same.f (t190.drop (x11_12 : Int).toNat) (bt197.1.drop (x11_12 : Int).toNat) (x12_16.size : Int)).bind fun t219 => (if t219 = true then (some true) else (none))) else (none))) else (none)) else (none)) else (none)) else (none)) else (none))) else (none)) else (none)) else (none)) else (none)) = some r := by rw [if_neg (show ¬ (false = true) by decide)] at H; exact H
                          clear H
                          have H := H1
                          clear H1
                          by_cases c25 : 0 ≤ x13_16
                          · rw [if_pos c25] at H
                            have c25b0 := eq_true c25
                            have c25b1 : decide (0 ≤ x13_16) = true := decide_eq_true c25
                            clear c25
                            by_cases c26 : x13_16 ≤ (a0.size : Int)
                            · rw [if_pos c26] at H
                              have c26b0 := eq_true c26
                              have c26b1 : decide (x13_16 ≤ (a0.size : Int)) = true := decide_eq_true c26
                              clear c26
                              by_cases c27 : (x13_16 : Int).toNat + x12_16.size ≤ 9223372036854775807
                              · rw [if_pos c27] at H
                                have c27b0 := eq_true c27
                                have c27b1 : decide ((x13_16 : Int).toNat + x12_16.size ≤ 9223372036854775807) = true := decide_eq_true c27
                                try have c27b2 : (9223372036854775807 < (x13_16 : Int).toNat + x12_16.size) = False := eq_false (Nat.not_lt.2 c27)
                                have c28b0 := eq_true (of_decide_eq_true (by first | (with_reducible assumption) | assumption) : 0 ≤ x13_16)
                                have c29b0 := eq_true (of_decide_eq_true (by first | (with_reducible assumption) | assumption) : x13_16 ≤ (a0.size : Int))
                                by_cases c30 : (x13_16 : Int).toNat + x12_16.size + (a0.size - (x13_16 : Int).toNat) ≤ 9223372036854775807
                                · rw [if_pos c30] at H
                                  have c30b0 := eq_true c30
                                  have c30b1 : decide ((x13_16 : Int).toNat + x12_16.size + (a0.size - (x13_16 : Int).toNat) ≤ 9223372036854775807) = true := decide_eq_true c30
                                  try have c30b2 : (9223372036854775807 < (x13_16 : Int).toNat + x12_16.size + (a0.size - (x13_16 : Int).toNat)) = False := eq_false (Nat.not_lt.2 c30)
                                  replace H := Option.bind_eq_some_iff.mp H
                                  obtain ⟨⟨t197, t198, t199⟩, A310, H⟩ := H
                                  replace H : (if t198 = 0 then (if (t197.length : Int) = (t190.length : Int) then (if 0 ≤ x11_12 then (if x11_12 ≤ (t190.length : Int) then (if x11_12 ≤ (t197.length : Int) then ((cohousingref07_Same.f (t190.take (x11_12 : Int).toNat) (t197.take (x11_12 : Int).toNat) 0).bind fun t210 => (if t210 = true then ((cohousingref07_Same.f (t190.drop (x11_12 : Int).toNat) (t197.drop (x11_12 : Int).toNat) (x12_16.size : Int)).bind fun t219 => (if t219 = true then (some true) else (none))) else (none))) else (none)) else (none)) else (none)) else (none)) else (none)) = some r := H
                                  have A31 := Aside0.mk A310
                                  clear A310
                                  by_cases c32 : t198 = 0
                                  · rw [if_pos c32] at H
                                    have c32b0 : (t198 == 0) = true := beq_iff_eq.mpr c32
                                    have c32b1 : (t198 != 0) = false := bne_eq_false_iff_eq.mpr c32
                                    clear c32
                                    by_cases c33 : (t197.length : Int) = (t190.length : Int)
                                    · rw [if_pos c33] at H
                                      have c33b0 : ((t197.length : Int) == (t190.length : Int)) = true := beq_iff_eq.mpr c33
                                      have c33b1 : ((t197.length : Int) != (t190.length : Int)) = false := bne_eq_false_iff_eq.mpr c33
                                      have c33b2 : (t197.length == t190.length) = true := by first | simpa using c33 | (simp at c33 ⊢; omega)
                                      clear c33
                                      by_cases c34 : 0 ≤ x11_12
                                      · rw [if_pos c34] at H
                                        have c34b0 := eq_true c34
                                        have c34b1 : decide (0 ≤ x11_12) = true := decide_eq_true c34
                                        clear c34
                                        by_cases c35 : x11_12 ≤ (t190.length : Int)
                                        · rw [if_pos c35] at H
                                          have c35b0 := eq_true c35
                                          have c35b1 : decide (x11_12 ≤ (t190.length : Int)) = true := decide_eq_true c35
                                          clear c35
                                          obtain ⟨y202, hy202⟩ : ∃ y_ : List (S32), y_ = (t190.take (x11_12 : Int).toNat) := ⟨_, rfl⟩
                                          replace H : (if x11_12 ≤ (t197.length : Int) then ((cohousingref07_Same.f y202 (t197.take (x11_12 : Int).toNat) 0).bind fun t210 => (if t210 = true then ((cohousingref07_Same.f (t190.drop (x11_12 : Int).toNat) (t197.drop (x11_12 : Int).toNat) (x12_16.size : Int)).bind fun t219 => (if t219 = true then (some true) else (none))) else (none))) else (none)) = some r := by first | (rw [hy202]; with_reducible exact H) | (have H2_ := (Option.bind_some _ _).symm.trans H; rw [hy202]; with_reducible exact H2_) | (have H2_ := (Option.bind_some _ _).symm.trans H; with_reducible exact H2_) | with_reducible exact H | (rw [hy202]; exact H) | exact H
                                          have Ny202 := Aside0.mk hy202
                                          clear hy202
                                          have c36b0 := eq_true (of_decide_eq_true (by first | (with_reducible assumption) | assumption) : 0 ≤ x11_12)
                                          by_cases c37 : x11_12 ≤ (t197.length : Int)
                                          · rw [if_pos c37] at H
                                            have c37b0 := eq_true c37
                                            have c37b1 : decide (x11_12 ≤ (t197.length : Int)) = true := decide_eq_true c37
                                            clear c37
                                            obtain ⟨y206, hy206⟩ : ∃ y_ : List (S32), y_ = (t197.take (x11_12 : Int).toNat) := ⟨_, rfl⟩
                                            replace H : ((cohousingref07_Same.f y202 y206 0).bind fun t210 => (if t210 = true then ((cohousingref07_Same.f (t190.drop (x11_12 : Int).toNat) (t197.drop (x11_12 : Int).toNat) (x12_16.size : Int)).bind fun t219 => (if t219 = true then (some true) else (none))) else (none))) = some r := by first | (rw [hy206]; with_reducible exact H) | (have H2_ := (Option.bind_some _ _).symm.trans H; rw [hy206]; with_reducible exact H2_) | (have H2_ := (Option.bind_some _ _).symm.trans H; with_reducible exact H2_) | with_reducible exact H | (rw [hy206]; exact H) | exact H
                                            have Ny206 := Aside0.mk hy206
                                            clear hy206
                                            replace H := Option.bind_eq_some_iff.mp H
                                            obtain ⟨t210, A380, H⟩ := H
                                            replace H : (if t210 = true then ((cohousingref07_Same.f (t190.drop (x11_12 : Int).toNat) (t197.drop (x11_12 : Int).toNat) (x12_16.size : Int)).bind fun t219 => (if t219 = true then (some true) else (none))) else (none)) = some r := H
                                            have A38 := Aside0.mk A380
                                            clear A380
                                            by_cases c39 : t210 = true
                                            · subst c39
                                              have H1 : ((cohousingref07_Same.f (t190.drop (x11_12 : Int).toNat) (t197.drop (x11_12 : Int).toNat) (x12_16.size : Int)).bind fun t219 => (if t219 = true then (some true) else (none))) = some r := by rw [if_pos rfl] at H; exact H
                                              clear H
                                              have H := H1
                                              clear H1
                                              have c40b0 := eq_true (of_decide_eq_true (by first | (with_reducible assumption) | assumption) : 0 ≤ x11_12)
                                              have c41b0 := eq_true (of_decide_eq_true (by first | (with_reducible assumption) | assumption) : x11_12 ≤ (t190.length : Int))
                                              obtain ⟨y211, hy211⟩ : ∃ y_ : List (S32), y_ = (t190.drop (x11_12 : Int).toNat) := ⟨_, rfl⟩
                                              replace H : ((cohousingref07_Same.f y211 (t197.drop (x11_12 : Int).toNat) (x12_16.size : Int)).bind fun t219 => (if t219 = true then (some true) else (none))) = some r := by first | (rw [hy211]; with_reducible exact H) | (have H2_ := (Option.bind_some _ _).symm.trans H; rw [hy211]; with_reducible exact H2_) | (have H2_ := (Option.bind_some _ _).symm.trans H; with_reducible exact H2_) | with_reducible exact H | (rw [hy211]; exact H) | exact H
                                              have Ny211 := Aside0.mk hy211
                                              clear hy211
                                              have c42b0 := eq_true (of_decide_eq_true (by first | (with_reducible assumption) | assumption) : 0 ≤ x11_12)
                                              have c43b0 := eq_true (of_decide_eq_true (by first | (with_reducible assumption) | assumption) : x11_12 ≤ (t197.length : Int))
                                              obtain ⟨y215, hy215⟩ : ∃ y_ : List (S32), y_ = (t197.drop (x11_12 : Int).toNat) := ⟨_, rfl⟩
                                              replace H : ((cohousingref07_Same.f y211 y215 (x12_16.size : Int)).bind fun t219 => (if t219 = true then (some true) else (none))) = some r := by first | (rw [hy215]; with_reducible exact H) | (have H2_ := (Option.bind_some _ _).symm.trans H; rw [hy215]; with_reducible exact H2_) | (have H2_ := (Option.bind_some _ _).symm.trans H; with_reducible exact H2_) | with_reducible exact H | (rw [hy215]; exact H) | exact H
                                              have Ny215 := Aside0.mk hy215
                                              clear hy215
                                              replace H := Option.bind_eq_some_iff.mp H
                                              obtain ⟨t219, A440, H⟩ := H
                                              replace H : (if t219 = true then (some true) else (none)) = some r := H
                                              have A44 := Aside0.mk A440
                                              clear A440
                                              by_cases c45 : t219 = true
                                              · subst c45
                                                have H1 : (some true) = some r := by rw [if_pos rfl] at H; exact H
                                                clear H
                                                have H := H1
                                                clear H1
                                                obtain rfl := Option.some.inj H
                                                try go_wp2
                                                have n0_ := Aside0.mk (Kd.R_drew HO_8.out)
                                                have n1_ := Aside0.mk (below_drew1 HB.out)
                                                clear HO_8
                                                clear HB
                                                have HO_8 := n0_
                                                have HB := n1_
                                                clear n0_ n1_
                                                refine start_ (n := 17) (S := fun w' => True) (ds := []) #[false, false, false, false, false, false, false, false, false, false, false, false, false, false, false, false, false] (by kernel_rfl) rfl rfl trivial (fun hHeld => ?_); refine with_tabW cohousinglaw07_LexerGaps.tab14 cohousinglaw07_LexerGaps.bits14 (fun HT_ HW_ => ?_)
                                                generalize wc.drew = w46 at HO_8 HB hHeld ⊢
                                                refine pure_ (i := 0) (N := some 68) (v := ?_) (a' := ?_) #[true, false, false, false, false, false, false, false, false, false, false, false, false, false, false, false, false] rfl rfl (any_of HT_.out (by kernel_rfl)) (fun _ _ _ h => h) (Or.inl ⟨by rfl, ?_⟩) ?_ ?_
                                                rotate_left
                                                · intro w'
                                                  go_simp
                                                  with_reducible rfl
                                                rotate_left
                                                · simp only [Act.put, List.setIfInBounds_toArray, List.set_cons_zero, List.set_cons_succ, i64_w, i32_w]
                                                  rfl
                                                refine pure_ (i := 1) (N := some 69) (v := ?_) (a' := ?_) #[true, true, false, false, false, false, false, false, false, false, false, false, false, false, false, false, false] rfl rfl (any_of HT_.out (by kernel_rfl)) (fun _ _ _ h => h) (Or.inl ⟨by rfl, ?_⟩) ?_ ?_
                                                rotate_left
                                                · intro w'
                                                  go_simp
                                                  with_reducible rfl
                                                rotate_left
                                                · simp only [Act.put, List.setIfInBounds_toArray, List.set_cons_zero, List.set_cons_succ, i64_w, i32_w]
                                                  rfl
                                                refine pure_ (i := 2) (N := some 70) (v := ?_) (a' := ?_) #[true, true, true, false, false, false, false, false, false, false, false, false, false, false, false, false, false] rfl rfl (any_of HT_.out (by kernel_rfl)) (fun _ _ _ h => h) (Or.inl ⟨by rfl, ?_⟩) ?_ ?_
                                                rotate_left
                                                · intro w'
                                                  go_simp
                                                  with_reducible rfl
                                                rotate_left
                                                · simp only [Act.put, List.setIfInBounds_toArray, List.set_cons_zero, List.set_cons_succ, i64_w, i32_w]
                                                  rfl
                                                refine pure_ (i := 3) (N := some 71) (v := ?_) (a' := ?_) #[true, true, true, true, false, false, false, false, false, false, false, false, false, false, false, false, false] rfl rfl (any_of HT_.out (by kernel_rfl)) (fun _ _ _ h => h) (Or.inl ⟨by rfl, ?_⟩) ?_ ?_
                                                rotate_left
                                                · intro w'
                                                  go_simp
                                                  with_reducible rfl
                                                rotate_left
                                                · simp only [Act.put, List.setIfInBounds_toArray, List.set_cons_zero, List.set_cons_succ, i64_w, i32_w]
                                                  rfl
                                                refine pure_ (i := 4) (N := some 72) (v := ?_) (a' := ?_) #[true, true, true, true, true, false, false, false, false, false, false, false, false, false, false, false, false] rfl rfl (any_of HT_.out (by kernel_rfl)) (fun _ _ _ h => h) (Or.inl ⟨by rfl, ?_⟩) ?_ ?_
                                                rotate_left
                                                · intro w'
                                                  go_simp
                                                  with_reducible rfl
                                                rotate_left
                                                · simp only [Act.put, List.setIfInBounds_toArray, List.set_cons_zero, List.set_cons_succ, i64_w, i32_w]
                                                  rfl
                                                refine pure_ (i := 5) (N := some 73) (v := ?_) (a' := ?_) #[true, true, true, true, true, true, false, false, false, false, false, false, false, false, false, false, false] rfl rfl (any_of HT_.out (by kernel_rfl)) (fun _ _ _ h => h) (Or.inl ⟨by rfl, ?_⟩) ?_ ?_
                                                rotate_left
                                                · intro w'
                                                  go_simp
                                                  with_reducible rfl
                                                rotate_left
                                                · simp only [Act.put, List.setIfInBounds_toArray, List.set_cons_zero, List.set_cons_succ, i64_w, i32_w]
                                                  rfl
                                                refine pure_ (i := 6) (N := some 74) (v := ?_) (a' := ?_) #[true, true, true, true, true, true, true, false, false, false, false, false, false, false, false, false, false] rfl rfl (any_of HT_.out (by kernel_rfl)) (fun _ _ _ h => h) (Or.inl ⟨by rfl, ?_⟩) ?_ ?_
                                                rotate_left
                                                · intro w'
                                                  go_simp
                                                  with_reducible rfl
                                                rotate_left
                                                · simp only [Act.put, List.setIfInBounds_toArray, List.set_cons_zero, List.set_cons_succ, i64_w, i32_w]
                                                  rfl
                                                refine pure_ (i := 7) (N := some 75) (v := ?_) (a' := ?_) #[true, true, true, true, true, true, true, true, false, false, false, false, false, false, false, false, false] rfl rfl (any_of HT_.out (by kernel_rfl)) (fun _ _ _ h => h) (Or.inl ⟨by rfl, ?_⟩) ?_ ?_
                                                rotate_left
                                                · intro w'
                                                  go_simp
                                                  with_reducible rfl
                                                rotate_left
                                                · simp only [Act.put, List.setIfInBounds_toArray, List.set_cons_zero, List.set_cons_succ, i64_w, i32_w]
                                                  rfl
                                                refine pure_ (i := 8) (N := some 76) (v := ?_) (a' := ?_) #[true, true, true, true, true, true, true, true, true, false, false, false, false, false, false, false, false] rfl rfl (any_of HT_.out (by kernel_rfl)) (fun _ _ _ h => h) (Or.inl ⟨by rfl, ?_⟩) ?_ ?_
                                                rotate_left
                                                · intro w'
                                                  go_simp
                                                  with_reducible rfl
                                                rotate_left
                                                · simp only [Act.put, List.setIfInBounds_toArray, List.set_cons_zero, List.set_cons_succ, i64_w, i32_w]
                                                  rfl
                                                refine one_ (i := 9) (N := some 77) #[true, true, true, true, true, true, true, true, true, true, false, false, false, false, false, false, false] rfl rfl (one_of HT_.out (by kernel_rfl)) (by decide) (fun K hK => ?_)
                                                refine goes_ Tryd.func11 (by kernel_rfl) rfl #[.string (((a0.extract 0 (x13_16 : Int).toNat) ++ x12_16) ++ (a0.extract (x13_16 : Int).toNat a0.size))] (by rfl) rfl rfl (by (try simp only [List.map_toArray, List.map_cons, List.map_nil]); first | done | rfl | (simp only [List.length_drop, List.length_take]; rfl)) ?_
                                                with_reducible refine (lexer_Lex.calls (((a0.extract 0 (x13_16 : Int).toNat) ++ x12_16) ++ (a0.extract (x13_16 : Int).toNat a0.size)) t197 t198 t199 _ A31.out).mono ?_
                                                rintro e w47 ⟨v200, rfl, ho0, hb⟩
                                                refine ⟨_, rfl, ?_⟩
                                                have n0_ := Aside0.mk (Kd.R_elder' (by (with_reducible repeat (first | apply Kd.R_alloc | apply Kd.R_drewN | apply Kd.R_drew)); exact HO_8.out) (Kd.R_base ho0) hb)
                                                have n1_ := Aside0.mk (Kd.R_lower (Kd.R_new' ho0 (Kd.R_lt (by (with_reducible repeat (first | apply Kd.R_alloc | apply Kd.R_drewN | apply Kd.R_drew)); exact HO_8.out))) (below_size (by repeat (first | (with_reducible first | exact HB.out | apply below_alloc | apply pw_below_drewN | apply below_drew1) | exact HB.out))))
                                                have n2_ := Aside0.mk (below_step (by repeat (first | (with_reducible first | exact HB.out | apply below_alloc | apply pw_below_drewN | apply below_drew1) | exact HB.out)) hb)
                                                clear HO_8
                                                clear HB
                                                have HO_8 := n0_
                                                have HO201 := n1_
                                                have HB := n2_
                                                clear n0_ n1_ n2_
                                                (try clear hb)
                                                (try clear hb2)
                                                (try clear hk)
                                                (try clear hi)
                                                (try clear ho0)
                                                refine hK.out _ _ trivial (fun hHeld => ?_)
                                                clear hK K
                                                refine norm_ (a' := ?_) ?_ ?_
                                                rotate_left
                                                · show Act.put _ (some 77) _ = _
                                                  simp only [Act.put, List.setIfInBounds_toArray, List.set_cons_zero, List.set_cons_succ, i64_w, i32_w]
                                                  rfl
                                                refine pure_ (i := 10) (N := some 67) (v := ?_) (a' := ?_) #[true, true, true, true, true, true, true, true, true, true, true, false, false, false, false, false, false] rfl rfl (any_of HT_.out (by kernel_rfl)) (fun _ _ _ h => h) (Or.inl ⟨by rfl, ?_⟩) ?_ ?_
                                                rotate_left
                                                · intro w'
                                                  go_simp
                                                  with_reducible rfl
                                                rotate_left
                                                · simp only [Act.put, List.setIfInBounds_toArray, List.set_cons_zero, List.set_cons_succ, i64_w, i32_w]
                                                  rfl
                                                refine pure_ (i := 11) (N := some 78) (v := ?_) (a' := ?_) #[true, true, true, true, true, true, true, true, true, true, true, true, false, false, false, false, false] rfl rfl (any_of HT_.out (by kernel_rfl)) (fun _ _ _ h => h) (Or.inl ⟨by rfl, ?_⟩) ?_ ?_
                                                rotate_left
                                                · intro w'
                                                  go_simp
                                                  with_reducible rfl
                                                rotate_left
                                                · simp only [Act.put, List.setIfInBounds_toArray, List.set_cons_zero, List.set_cons_succ, i64_w, i32_w]
                                                  rfl
                                                refine pure_ (i := 12) (N := some 79) (v := ?_) (a' := ?_) #[true, true, true, true, true, true, true, true, true, true, true, true, true, false, false, false, false] rfl rfl (any_of HT_.out (by kernel_rfl)) (fun _ _ _ h => h) (Or.inl ⟨by rfl, ?_⟩) ?_ ?_
                                                rotate_left
                                                · intro w'
                                                  go_simp
                                                  with_reducible rfl
                                                rotate_left
                                                · simp only [Act.put, List.setIfInBounds_toArray, List.set_cons_zero, List.set_cons_succ, i64_w, i32_w]
                                                  rfl
                                                refine pure_ (i := 13) (N := some 80) (v := ?_) (a' := ?_) #[true, true, true, true, true, true, true, true, true, true, true, true, true, true, false, false, false] rfl rfl (any_of HT_.out (by kernel_rfl)) (fun _ _ _ h => h) (Or.inl ⟨by rfl, ?_⟩) ?_ ?_
                                                rotate_left
                                                · intro w'
                                                  go_simp
                                                  with_reducible rfl
                                                rotate_left
                                                · simp only [Act.put, List.setIfInBounds_toArray, List.set_cons_zero, List.set_cons_succ, i64_w, i32_w]
                                                  rfl
                                                refine pure_ (i := 14) (N := some 14) (v := ?_) (a' := ?_) #[true, true, true, true, true, true, true, true, true, true, true, true, true, true, true, false, false] rfl rfl (any_of HT_.out (by kernel_rfl)) (fun _ _ _ h => h) (Or.inl ⟨by rfl, ?_⟩) ?_ ?_
                                                rotate_left
                                                · intro w'
                                                  go_simp
                                                  with_reducible rfl
                                                rotate_left
                                                · simp only [Act.put, List.setIfInBounds_toArray, List.set_cons_zero, List.set_cons_succ, i64_w, i32_w]
                                                  rfl
                                                refine pure_ (i := 15) (N := some 15) (v := ?_) (a' := ?_) #[true, true, true, true, true, true, true, true, true, true, true, true, true, true, true, true, false] rfl rfl (any_of HT_.out (by kernel_rfl)) (fun _ _ _ h => h) (Or.inl ⟨by rfl, ?_⟩) ?_ ?_
                                                rotate_left
                                                · intro w'
                                                  go_simp
                                                  with_reducible rfl
                                                rotate_left
                                                · simp only [Act.put, List.setIfInBounds_toArray, List.set_cons_zero, List.set_cons_succ, i64_w, i32_w]
                                                  rfl
                                                refine pure_ (i := 16) (N := some 16) (v := ?_) (a' := ?_) #[true, true, true, true, true, true, true, true, true, true, true, true, true, true, true, true, true] rfl rfl (any_of HT_.out (by kernel_rfl)) (fun _ _ _ h => h) (Or.inl ⟨by rfl, ?_⟩) ?_ ?_
                                                rotate_left
                                                · intro w'
                                                  go_simp
                                                  with_reducible rfl
                                                rotate_left
                                                · simp only [Act.put, List.setIfInBounds_toArray, List.set_cons_zero, List.set_cons_succ, i64_w, i32_w]
                                                  rfl
                                                refine done_ (done_of HT_.out (by kernel_rfl)) ?_
                                                try go_wp2
                                                have n0_ := Aside0.mk (Kd.R_drew HO_8.out)
                                                have n1_ := Aside0.mk (Kd.R_drew HO201.out)
                                                have n2_ := Aside0.mk (below_drew1 HB.out)
                                                clear HO_8
                                                clear HO201
                                                clear HB
                                                have HO_8 := n0_
                                                have HO201 := n1_
                                                have HB := n2_
                                                clear n0_ n1_ n2_
                                                obtain ⟨Ao49, co49, eo49⟩ := Kd.R_slice HO201.out
                                                (first | subst eo49 | (injection eo49 with f1_ f2_ f3_; have f4_ := f1_.symm; have f5_ := f3_.symm; clear f1_ f2_ f3_; subst f4_; subst f5_))
                                                have q50 : (x11_12 : Int) ≤ ((t190.length : Int) : Int) := of_decide_eq_true (by first | (with_reducible assumption) | assumption)
                                                obtain ⟨i050, hi050, _, hsz50, _⟩ := info_parts info32
                                                have hroom50 : t190.length ≤ co14 := (Kd.R_reads' HO_8.out).2.1
                                                have hC50 : Kd.C k32 _ Ao14 t190.length t190 := (Kd.R_reads' HO_8.out).2.2
                                                have hcut50 := cut_to (P := Tryd.prog) 23 32 .i64 Tryd.underlying23 hi050 Ao14 t190.length co14 x11_12 (of_decide_eq_true (by first | (with_reducible assumption) | assumption)) q50 hroom50
                                                have hr50 := Kd.C_take (m := (x11_12 : Int).toNat) hC50 (by omega)
                                                have hy50 : y202.length = (x11_12 : Int).toNat := (by rw [Ny202.out, List.length_take]; omega)
                                                rw [← Ny202.out] at hr50
                                                rw [← hy50] at hcut50
                                                have HR205 := Aside0.mk hr50
                                                have HC205 := Aside0.mk (show y202.length ≤ co14 from by omega)
                                                clear hr50 hC50 hroom50 hi050 hsz50
                                                have KY50 := Aside0.mk hy50
                                                clear hy50
                                                have KL50 := Aside0.mk (show (x11_12 : Int).toNat ≤ t190.length from by omega)
                                                replace q50 := eq_true q50
                                                have q51 : (x11_12 : Int) ≤ ((t197.length : Int) : Int) := of_decide_eq_true (by first | (with_reducible assumption) | assumption)
                                                obtain ⟨i051, hi051, _, hsz51, _⟩ := info_parts info32
                                                have hroom51 : t197.length ≤ co49 := (Kd.R_reads' HO201.out).2.1
                                                have hC51 : Kd.C k32 _ Ao49 t197.length t197 := (Kd.R_reads' HO201.out).2.2
                                                have hcut51 := cut_to (P := Tryd.prog) 23 32 .i64 Tryd.underlying23 hi051 Ao49 t197.length co49 x11_12 (of_decide_eq_true (by first | (with_reducible assumption) | assumption)) q51 hroom51
                                                have hr51 := Kd.C_take (m := (x11_12 : Int).toNat) hC51 (by omega)
                                                have hy51 : y206.length = (x11_12 : Int).toNat := (by rw [Ny206.out, List.length_take]; omega)
                                                rw [← Ny206.out] at hr51
                                                rw [← hy51] at hcut51
                                                have HR209 := Aside0.mk hr51
                                                have HC209 := Aside0.mk (show y206.length ≤ co49 from by omega)
                                                clear hr51 hC51 hroom51 hi051 hsz51
                                                have KY51 := Aside0.mk hy51
                                                clear hy51
                                                have KL51 := Aside0.mk (show (x11_12 : Int).toNat ≤ t197.length from by omega)
                                                replace q51 := eq_true q51
                                                refine start_ (n := 33) (S := fun w' => True) (ds := []) #[false, false, false, false, false, false, false, false, false, false, false, false, false, false, false, false, false, false, false, false, false, false, false, false, false, false, false, false, false, false, false, false, false] (by kernel_rfl) rfl rfl trivial (fun hHeld => ?_); refine with_tabW cohousinglaw07_LexerGaps.tab15 cohousinglaw07_LexerGaps.bits15 (fun HT_ HW_ => ?_)
                                                generalize w47.drew = w48 at HO_8 HO201 HB HR205 HR209 hHeld ⊢
                                                refine pure_ (i := 0) (N := some 81) (v := ?_) (a' := ?_) #[true, false, false, false, false, false, false, false, false, false, false, false, false, false, false, false, false, false, false, false, false, false, false, false, false, false, false, false, false, false, false, false, false] rfl rfl (any_of HT_.out (by kernel_rfl)) (fun _ _ _ h => h) (Or.inl ⟨by rfl, ?_⟩) ?_ ?_
                                                rotate_left
                                                · intro w'
                                                  go_simp
                                                  with_reducible rfl
                                                rotate_left
                                                · simp only [Act.put, List.setIfInBounds_toArray, List.set_cons_zero, List.set_cons_succ, i64_w, i32_w]
                                                  rfl
                                                refine pure_ (i := 1) (N := some 82) (v := ?_) (a' := ?_) #[true, true, false, false, false, false, false, false, false, false, false, false, false, false, false, false, false, false, false, false, false, false, false, false, false, false, false, false, false, false, false, false, false] rfl rfl (any_of HT_.out (by kernel_rfl)) (fun _ _ _ h => h) (Or.inl ⟨by rfl, ?_⟩) ?_ ?_
                                                rotate_left
                                                · intro w'
                                                  go_simp
                                                  with_reducible rfl
                                                rotate_left
                                                · simp only [Act.put, List.setIfInBounds_toArray, List.set_cons_zero, List.set_cons_succ, i64_w, i32_w]
                                                  rfl
                                                refine pure_ (i := 2) (N := some 83) (v := ?_) (a' := ?_) #[true, true, true, false, false, false, false, false, false, false, false, false, false, false, false, false, false, false, false, false, false, false, false, false, false, false, false, false, false, false, false, false, false] rfl rfl (any_of HT_.out (by kernel_rfl)) (fun _ _ _ h => h) (Or.inl ⟨by rfl, ?_⟩) ?_ ?_
                                                rotate_left
                                                · intro w'
                                                  go_simp
                                                  with_reducible rfl
                                                rotate_left
                                                · simp only [Act.put, List.setIfInBounds_toArray, List.set_cons_zero, List.set_cons_succ, i64_w, i32_w]
                                                  rfl
                                                refine pure_ (i := 3) (N := some 84) (v := ?_) (a' := ?_) #[true, true, true, true, false, false, false, false, false, false, false, false, false, false, false, false, false, false, false, false, false, false, false, false, false, false, false, false, false, false, false, false, false] rfl rfl (any_of HT_.out (by kernel_rfl)) (fun _ _ _ h => h) (Or.inl ⟨by rfl, ?_⟩) ?_ ?_
                                                rotate_left
                                                · intro w'
                                                  go_simp
                                                  with_reducible rfl
                                                rotate_left
                                                · simp only [Act.put, List.setIfInBounds_toArray, List.set_cons_zero, List.set_cons_succ, i64_w, i32_w]
                                                  rfl
                                                refine pure_ (i := 4) (N := some 85) (v := ?_) (a' := ?_) #[true, true, true, true, true, false, false, false, false, false, false, false, false, false, false, false, false, false, false, false, false, false, false, false, false, false, false, false, false, false, false, false, false] rfl rfl (any_of HT_.out (by kernel_rfl)) (fun _ _ _ h => h) (Or.inl ⟨by rfl, ?_⟩) ?_ ?_
                                                rotate_left
                                                · intro w'
                                                  go_simp
                                                  with_reducible rfl
                                                rotate_left
                                                · simp only [Act.put, List.setIfInBounds_toArray, List.set_cons_zero, List.set_cons_succ, i64_w, i32_w]
                                                  rfl
                                                refine pure_ (i := 5) (N := some 86) (v := ?_) (a' := ?_) #[true, true, true, true, true, true, false, false, false, false, false, false, false, false, false, false, false, false, false, false, false, false, false, false, false, false, false, false, false, false, false, false, false] rfl rfl (any_of HT_.out (by kernel_rfl)) (fun _ _ _ h => h) (Or.inl ⟨by rfl, ?_⟩) ?_ ?_
                                                rotate_left
                                                · intro w'
                                                  go_simp
                                                  with_reducible rfl
                                                rotate_left
                                                · simp only [Act.put, List.setIfInBounds_toArray, List.set_cons_zero, List.set_cons_succ, i64_w, i32_w]
                                                  rfl
                                                refine pure_ (i := 6) (N := some 87) (v := ?_) (a' := ?_) #[true, true, true, true, true, true, true, false, false, false, false, false, false, false, false, false, false, false, false, false, false, false, false, false, false, false, false, false, false, false, false, false, false] rfl rfl (any_of HT_.out (by kernel_rfl)) (fun _ _ _ h => h) (Or.inl ⟨by rfl, ?_⟩) ?_ ?_
                                                rotate_left
                                                · intro w'
                                                  go_simp
                                                  with_reducible rfl
                                                rotate_left
                                                · simp only [Act.put, List.setIfInBounds_toArray, List.set_cons_zero, List.set_cons_succ, i64_w, i32_w]
                                                  rfl
                                                refine pure_ (i := 7) (N := some 88) (v := ?_) (a' := ?_) #[true, true, true, true, true, true, true, true, false, false, false, false, false, false, false, false, false, false, false, false, false, false, false, false, false, false, false, false, false, false, false, false, false] rfl rfl (any_of HT_.out (by kernel_rfl)) (fun _ _ _ h => h) (Or.inl ⟨by rfl, ?_⟩) ?_ ?_
                                                rotate_left
                                                · intro w'
                                                  go_simp
                                                  with_reducible rfl
                                                rotate_left
                                                · simp only [Act.put, List.setIfInBounds_toArray, List.set_cons_zero, List.set_cons_succ, i64_w, i32_w]
                                                  rfl
                                                refine pure_ (i := 8) (N := some 89) (v := ?_) (a' := ?_) #[true, true, true, true, true, true, true, true, true, false, false, false, false, false, false, false, false, false, false, false, false, false, false, false, false, false, false, false, false, false, false, false, false] rfl rfl (any_of HT_.out (by kernel_rfl)) (fun _ _ _ h => h) (Or.inl ⟨by rfl, ?_⟩) ?_ ?_
                                                rotate_left
                                                · intro w'
                                                  go_simp
                                                  with_reducible rfl
                                                rotate_left
                                                · simp only [Act.put, List.setIfInBounds_toArray, List.set_cons_zero, List.set_cons_succ, i64_w, i32_w]
                                                  rfl
                                                refine pure_ (i := 9) (N := some 90) (v := ?_) (a' := ?_) #[true, true, true, true, true, true, true, true, true, true, false, false, false, false, false, false, false, false, false, false, false, false, false, false, false, false, false, false, false, false, false, false, false] rfl rfl (any_of HT_.out (by kernel_rfl)) (fun _ _ _ h => h) (Or.inl ⟨by rfl, ?_⟩) ?_ ?_
                                                rotate_left
                                                · intro w'
                                                  go_simp
                                                  with_reducible rfl
                                                rotate_left
                                                · simp only [Act.put, List.setIfInBounds_toArray, List.set_cons_zero, List.set_cons_succ, i64_w, i32_w]
                                                  rfl
                                                refine pure_ (i := 10) (N := some 91) (v := ?_) (a' := ?_) #[true, true, true, true, true, true, true, true, true, true, true, false, false, false, false, false, false, false, false, false, false, false, false, false, false, false, false, false, false, false, false, false, false] rfl rfl (any_of HT_.out (by kernel_rfl)) (fun _ _ _ h => h) (Or.inl ⟨by rfl, ?_⟩) ?_ ?_
                                                rotate_left
                                                · intro w'
                                                  go_simp
                                                  with_reducible rfl
                                                rotate_left
                                                · simp only [Act.put, List.setIfInBounds_toArray, List.set_cons_zero, List.set_cons_succ, i64_w, i32_w]
                                                  rfl
                                                refine pure_ (i := 11) (N := some 92) (v := ?_) (a' := ?_) #[true, true, true, true, true, true, true, true, true, true, true, true, false, false, false, false, false, false, false, false, false, false, false, false, false, false, false, false, false, false, false, false, false] rfl rfl (any_of HT_.out (by kernel_rfl)) (fun _ _ _ h => h) (Or.inl ⟨by rfl, ?_⟩) ?_ ?_
                                                rotate_left
                                                · intro w'
                                                  go_simp
                                                  with_reducible rfl
                                                rotate_left
                                                · simp only [Act.put, List.setIfInBounds_toArray, List.set_cons_zero, List.set_cons_succ, i64_w, i32_w]
                                                  rfl
                                                refine pure_ (i := 12) (N := some 93) (v := ?_) (a' := ?_) #[true, true, true, true, true, true, true, true, true, true, true, true, true, false, false, false, false, false, false, false, false, false, false, false, false, false, false, false, false, false, false, false, false] rfl rfl (any_of HT_.out (by kernel_rfl)) (fun _ _ _ h => h) (Or.inl ⟨by rfl, ?_⟩) ?_ ?_
                                                rotate_left
                                                · intro w'
                                                  go_simp
                                                  with_reducible rfl
                                                rotate_left
                                                · simp only [Act.put, List.setIfInBounds_toArray, List.set_cons_zero, List.set_cons_succ, i64_w, i32_w]
                                                  rfl
                                                refine pure_ (i := 13) (N := some 94) (v := ?_) (a' := ?_) #[true, true, true, true, true, true, true, true, true, true, true, true, true, true, false, false, false, false, false, false, false, false, false, false, false, false, false, false, false, false, false, false, false] rfl rfl (any_of HT_.out (by kernel_rfl)) (fun _ _ _ h => h) (Or.inl ⟨by rfl, ?_⟩) ?_ ?_
                                                rotate_left
                                                · intro w'
                                                  go_simp
                                                  with_reducible rfl
                                                rotate_left
                                                · simp only [Act.put, List.setIfInBounds_toArray, List.set_cons_zero, List.set_cons_succ, i64_w, i32_w]
                                                  rfl
                                                refine pure_ (i := 14) (N := some 95) (v := ?_) (a' := ?_) #[true, true, true, true, true, true, true, true, true, true, true, true, true, true, true, false, false, false, false, false, false, false, false, false, false, false, false, false, false, false, false, false, false] rfl rfl (any_of HT_.out (by kernel_rfl)) (fun _ _ _ h => h) (Or.inl ⟨by rfl, ?_⟩) ?_ ?_
                                                rotate_left
                                                · intro w'
                                                  go_simp
                                                  with_reducible rfl
                                                rotate_left
                                                · simp only [Act.put, List.setIfInBounds_toArray, List.set_cons_zero, List.set_cons_succ, i64_w, i32_w]
                                                  rfl
                                                refine pure_ (i := 15) (N := some 96) (v := ?_) (a' := ?_) #[true, true, true, true, true, true, true, true, true, true, true, true, true, true, true, true, false, false, false, false, false, false, false, false, false, false, false, false, false, false, false, false, false] rfl rfl (any_of HT_.out (by kernel_rfl)) (fun _ _ _ h => h) (Or.inl ⟨by rfl, ?_⟩) ?_ ?_
                                                rotate_left
                                                · intro w'
                                                  go_simp
                                                  with_reducible rfl
                                                rotate_left
                                                · simp only [Act.put, List.setIfInBounds_toArray, List.set_cons_zero, List.set_cons_succ, i64_w, i32_w]
                                                  rfl
                                                refine pure_ (i := 16) (N := some 97) (v := ?_) (a' := ?_) #[true, true, true, true, true, true, true, true, true, true, true, true, true, true, true, true, true, false, false, false, false, false, false, false, false, false, false, false, false, false, false, false, false] rfl rfl (any_of HT_.out (by kernel_rfl)) (fun _ _ _ h => h) (Or.inl ⟨by rfl, ?_⟩) ?_ ?_
                                                rotate_left
                                                · intro w'
                                                  go_simp
                                                  with_reducible rfl
                                                rotate_left
                                                · simp only [Act.put, List.setIfInBounds_toArray, List.set_cons_zero, List.set_cons_succ, i64_w, i32_w]
                                                  rfl
                                                refine pure_ (i := 17) (N := some 98) (v := ?_) (a' := ?_) #[true, true, true, true, true, true, true, true, true, true, true, true, true, true, true, true, true, true, false, false, false, false, false, false, false, false, false, false, false, false, false, false, false] rfl rfl (any_of HT_.out (by kernel_rfl)) (fun _ _ _ h => h) (Or.inl ⟨by rfl, ?_⟩) ?_ ?_
                                                rotate_left
                                                · intro w'
                                                  go_simp
                                                  with_reducible rfl
                                                rotate_left
                                                · simp only [Act.put, List.setIfInBounds_toArray, List.set_cons_zero, List.set_cons_succ, i64_w, i32_w]
                                                  rfl
                                                refine pure_ (i := 18) (N := some 99) (v := ?_) (a' := ?_) #[true, true, true, true, true, true, true, true, true, true, true, true, true, true, true, true, true, true, true, false, false, false, false, false, false, false, false, false, false, false, false, false, false] rfl rfl (any_of HT_.out (by kernel_rfl)) (fun _ _ _ h => h) (Or.inl ⟨by rfl, ?_⟩) ?_ ?_
                                                rotate_left
                                                · intro w'
                                                  go_simp
                                                  with_reducible rfl
                                                rotate_left
                                                · simp only [Act.put, List.setIfInBounds_toArray, List.set_cons_zero, List.set_cons_succ, i64_w, i32_w]
                                                  rfl
                                                refine one_ (i := 19) (N := some 100) #[true, true, true, true, true, true, true, true, true, true, true, true, true, true, true, true, true, true, true, true, false, false, false, false, false, false, false, false, false, false, false, false, false] rfl rfl (one_of HT_.out (by kernel_rfl)) (by decide) (fun K hK => ?_)
                                                refine goes_ Tryd.func13 (by kernel_rfl) rfl #[.slice Ao14 y202.length co14, .slice Ao49 y206.length co49, .int .i64 0] (by rfl) rfl rfl (by (try simp only [List.map_toArray, List.map_cons, List.map_nil]); first | done | rfl | (simp only [List.length_drop, List.length_take]; rfl)) ?_
                                                with_reducible refine (cohousingref07_Same.calls _ _ y202 _ _ y206 0 true _ ?side1 ?side2 ?side3 ?side4 A38.out).mono ?_
                                                (case side1 => repeat (first | exact (by repeat (first | (with_reducible exact HR205.out) | (with_reducible refine Kd.C_alloc ?_ _) | (with_reducible refine Kd.C_drewN ?_ _) | (with_reducible refine Kd.C_drew ?_) | exact HR205.out)) | (with_reducible refine Kd.C_alloc ?_ _) | (with_reducible refine Kd.C_drewN ?_ _) | (with_reducible refine Kd.C_drew ?_)))
                                                (case side2 => exact HC205.out)
                                                (case side3 => repeat (first | exact (by repeat (first | (with_reducible exact HR209.out) | (with_reducible refine Kd.C_alloc ?_ _) | (with_reducible refine Kd.C_drewN ?_ _) | (with_reducible refine Kd.C_drew ?_) | exact HR209.out)) | (with_reducible refine Kd.C_alloc ?_ _) | (with_reducible refine Kd.C_drewN ?_ _) | (with_reducible refine Kd.C_drew ?_)))
                                                (case side4 => exact HC209.out)
                                                rintro e w52 ⟨rfl, hb⟩
                                                refine ⟨_, rfl, ?_⟩
                                                have n0_ := Aside0.mk (Kd.R_below (by (with_reducible repeat (first | apply Kd.R_alloc | apply Kd.R_drewN | apply Kd.R_drew)); exact HO_8.out) hb)
                                                have n1_ := Aside0.mk (Kd.R_below (by (with_reducible repeat (first | apply Kd.R_alloc | apply Kd.R_drewN | apply Kd.R_drew)); exact HO201.out) hb)
                                                have n2_ := Aside0.mk (Kd.C_below (by repeat (first | (with_reducible exact HR205.out) | (with_reducible refine Kd.C_alloc ?_ _) | (with_reducible refine Kd.C_drewN ?_ _) | (with_reducible refine Kd.C_drew ?_) | exact HR205.out)) hb)
                                                have n3_ := Aside0.mk (Kd.C_below (by repeat (first | (with_reducible exact HR209.out) | (with_reducible refine Kd.C_alloc ?_ _) | (with_reducible refine Kd.C_drewN ?_ _) | (with_reducible refine Kd.C_drew ?_) | exact HR209.out)) hb)
                                                have n4_ := Aside0.mk (below_step (by repeat (first | (with_reducible first | exact HB.out | apply below_alloc | apply pw_below_drewN | apply below_drew1) | exact HB.out)) hb)
                                                clear HO_8
                                                clear HO201
                                                clear HR205
                                                clear HR209
                                                clear HB
                                                have HO_8 := n0_
                                                have HO201 := n1_
                                                have HR205 := n2_
                                                have HR209 := n3_
                                                have HB := n4_
                                                clear n0_ n1_ n2_ n3_ n4_
                                                (try clear hb)
                                                (try clear hb2)
                                                (try clear hk)
                                                (try clear hi)
                                                have q53 : (x11_12 : Int) ≤ ((t190.length : Int) : Int) := of_decide_eq_true (by first | (with_reducible assumption) | assumption)
                                                obtain ⟨i053, hi053, _, hsz53, _⟩ := info_parts info32
                                                have hroom53 : t190.length ≤ co14 := (Kd.R_reads' HO_8.out).2.1
                                                have hC53 : Kd.C k32 _ Ao14 t190.length t190 := (Kd.R_reads' HO_8.out).2.2
                                                have q053 : (0 : Int) ≤ (x11_12 : Int) := of_decide_eq_true (by first | (with_reducible assumption) | assumption)
                                                have hcut53 := cut_from (P := Tryd.prog) 23 32 .i64 Tryd.underlying23 hi053 5 hsz53 Ao14 t190.length co14 x11_12 q053 q53
                                                have hr53 := Kd.C_drop (m := (x11_12 : Int).toNat) (c := co14) hC53 (by omega) hroom53
                                                obtain ⟨A53, hA53⟩ : ∃ A1, A1 = (if co14 = (x11_12 : Int).toNat then Ao14 else (Ao14 : Option Addr).map (·.add ((x11_12 : Int).toNat * 5))) := ⟨_, rfl⟩
                                                obtain ⟨c53, hc53⟩ : ∃ c1, c1 = co14 - (x11_12 : Int).toNat := ⟨_, rfl⟩
                                                have hy53 : y211.length = t190.length - (x11_12 : Int).toNat := (by rw [Ny211.out, List.length_drop] <;> omega)
                                                rw [show (t190).drop (x11_12 : Int).toNat = y211 from Ny211.out.symm] at hr53
                                                replace hr53 : Kd.C k32 _ A53 y211.length y211 := (by rw [hA53]; exact hr53)
                                                rw [← hy53, ← hA53, ← hc53] at hcut53
                                                have HR214 := Aside0.mk hr53
                                                have HC214 := Aside0.mk (show y211.length ≤ c53 from by rw [hy53, hc53]; exact Nat.sub_le_sub_right hroom53 _)
                                                clear hr53 hC53 hroom53 hi053 hsz53 hc53
                                                have KY53 := Aside0.mk hy53
                                                have KA53 := Aside0.mk hA53
                                                clear hy53 hA53
                                                have KL53 := Aside0.mk (show (x11_12 : Int).toNat ≤ t190.length from by omega)
                                                replace q53 := eq_true q53
                                                have q54 : (x11_12 : Int) ≤ ((t197.length : Int) : Int) := of_decide_eq_true (by first | (with_reducible assumption) | assumption)
                                                obtain ⟨i054, hi054, _, hsz54, _⟩ := info_parts info32
                                                have hroom54 : t197.length ≤ co49 := (Kd.R_reads' HO201.out).2.1
                                                have hC54 : Kd.C k32 _ Ao49 t197.length t197 := (Kd.R_reads' HO201.out).2.2
                                                have q054 : (0 : Int) ≤ (x11_12 : Int) := of_decide_eq_true (by first | (with_reducible assumption) | assumption)
                                                have hcut54 := cut_from (P := Tryd.prog) 23 32 .i64 Tryd.underlying23 hi054 5 hsz54 Ao49 t197.length co49 x11_12 q054 q54
                                                have hr54 := Kd.C_drop (m := (x11_12 : Int).toNat) (c := co49) hC54 (by omega) hroom54
                                                obtain ⟨A54, hA54⟩ : ∃ A1, A1 = (if co49 = (x11_12 : Int).toNat then Ao49 else (Ao49 : Option Addr).map (·.add ((x11_12 : Int).toNat * 5))) := ⟨_, rfl⟩
                                                obtain ⟨c54, hc54⟩ : ∃ c1, c1 = co49 - (x11_12 : Int).toNat := ⟨_, rfl⟩
                                                have hy54 : y215.length = t197.length - (x11_12 : Int).toNat := (by rw [Ny215.out, List.length_drop] <;> omega)
                                                rw [show (t197).drop (x11_12 : Int).toNat = y215 from Ny215.out.symm] at hr54
                                                replace hr54 : Kd.C k32 _ A54 y215.length y215 := (by rw [hA54]; exact hr54)
                                                rw [← hy54, ← hA54, ← hc54] at hcut54
                                                have HR218 := Aside0.mk hr54
                                                have HC218 := Aside0.mk (show y215.length ≤ c54 from by rw [hy54, hc54]; exact Nat.sub_le_sub_right hroom54 _)
                                                clear hr54 hC54 hroom54 hi054 hsz54 hc54
                                                have KY54 := Aside0.mk hy54
                                                have KA54 := Aside0.mk hA54
                                                clear hy54 hA54
                                                have KL54 := Aside0.mk (show (x11_12 : Int).toNat ≤ t197.length from by omega)
                                                replace q54 := eq_true q54
                                                refine hK.out _ _ trivial (fun hHeld => ?_)
                                                clear hK K
                                                refine norm_ (a' := ?_) ?_ ?_
                                                rotate_left
                                                · show Act.put _ (some 100) _ = _
                                                  simp only [Act.put, List.setIfInBounds_toArray, List.set_cons_zero, List.set_cons_succ, i64_w, i32_w]
                                                  rfl
                                                refine pure_ (i := 20) (N := some 101) (v := ?_) (a' := ?_) #[true, true, true, true, true, true, true, true, true, true, true, true, true, true, true, true, true, true, true, true, true, false, false, false, false, false, false, false, false, false, false, false, false] rfl rfl (any_of HT_.out (by kernel_rfl)) (fun _ _ _ h => h) (Or.inl ⟨by rfl, ?_⟩) ?_ ?_
                                                rotate_left
                                                · intro w'
                                                  go_simp
                                                  with_reducible rfl
                                                rotate_left
                                                · simp only [Act.put, List.setIfInBounds_toArray, List.set_cons_zero, List.set_cons_succ, i64_w, i32_w]
                                                  rfl
                                                refine pure_ (i := 21) (N := some 102) (v := ?_) (a' := ?_) #[true, true, true, true, true, true, true, true, true, true, true, true, true, true, true, true, true, true, true, true, true, true, false, false, false, false, false, false, false, false, false, false, false] rfl rfl (any_of HT_.out (by kernel_rfl)) (fun _ _ _ h => h) (Or.inl ⟨by rfl, ?_⟩) ?_ ?_
                                                rotate_left
                                                · intro w'
                                                  go_simp
                                                  with_reducible rfl
                                                rotate_left
                                                · simp only [Act.put, List.setIfInBounds_toArray, List.set_cons_zero, List.set_cons_succ, i64_w, i32_w]
                                                  rfl
                                                refine pure_ (i := 22) (N := some 103) (v := ?_) (a' := ?_) #[true, true, true, true, true, true, true, true, true, true, true, true, true, true, true, true, true, true, true, true, true, true, true, false, false, false, false, false, false, false, false, false, false] rfl rfl (any_of HT_.out (by kernel_rfl)) (fun _ _ _ h => h) (Or.inl ⟨by rfl, ?_⟩) ?_ ?_
                                                rotate_left
                                                · intro w'
                                                  go_simp
                                                  with_reducible rfl
                                                rotate_left
                                                · simp only [Act.put, List.setIfInBounds_toArray, List.set_cons_zero, List.set_cons_succ, i64_w, i32_w]
                                                  rfl
                                                refine pure_ (i := 23) (N := some 104) (v := ?_) (a' := ?_) #[true, true, true, true, true, true, true, true, true, true, true, true, true, true, true, true, true, true, true, true, true, true, true, true, false, false, false, false, false, false, false, false, false] rfl rfl (any_of HT_.out (by kernel_rfl)) (fun _ _ _ h => h) (Or.inl ⟨by rfl, ?_⟩) ?_ ?_
                                                rotate_left
                                                · intro w'
                                                  go_simp
                                                  with_reducible rfl
                                                rotate_left
                                                · simp only [Act.put, List.setIfInBounds_toArray, List.set_cons_zero, List.set_cons_succ, i64_w, i32_w]
                                                  rfl
                                                refine pure_ (i := 24) (N := some 105) (v := ?_) (a' := ?_) #[true, true, true, true, true, true, true, true, true, true, true, true, true, true, true, true, true, true, true, true, true, true, true, true, true, false, false, false, false, false, false, false, false] rfl rfl (any_of HT_.out (by kernel_rfl)) (fun _ _ _ h => h) (Or.inl ⟨by rfl, ?_⟩) ?_ ?_
                                                rotate_left
                                                · intro w'
                                                  go_simp
                                                  with_reducible rfl
                                                rotate_left
                                                · simp only [Act.put, List.setIfInBounds_toArray, List.set_cons_zero, List.set_cons_succ, i64_w, i32_w]
                                                  rfl
                                                refine pure_ (i := 25) (N := some 106) (v := ?_) (a' := ?_) #[true, true, true, true, true, true, true, true, true, true, true, true, true, true, true, true, true, true, true, true, true, true, true, true, true, true, false, false, false, false, false, false, false] rfl rfl (any_of HT_.out (by kernel_rfl)) (fun _ _ _ h => h) (Or.inl ⟨by rfl, ?_⟩) ?_ ?_
                                                rotate_left
                                                · intro w'
                                                  go_simp
                                                  with_reducible rfl
                                                rotate_left
                                                · simp only [Act.put, List.setIfInBounds_toArray, List.set_cons_zero, List.set_cons_succ, i64_w, i32_w]
                                                  rfl
                                                refine pure_ (i := 26) (N := some 107) (v := ?_) (a' := ?_) #[true, true, true, true, true, true, true, true, true, true, true, true, true, true, true, true, true, true, true, true, true, true, true, true, true, true, true, false, false, false, false, false, false] rfl rfl (any_of HT_.out (by kernel_rfl)) (fun _ _ _ h => h) (Or.inl ⟨by rfl, ?_⟩) ?_ ?_
                                                rotate_left
                                                · intro w'
                                                  go_simp
                                                  with_reducible rfl
                                                rotate_left
                                                · simp only [Act.put, List.setIfInBounds_toArray, List.set_cons_zero, List.set_cons_succ, i64_w, i32_w]
                                                  rfl
                                                refine pure_ (i := 27) (N := some 108) (v := ?_) (a' := ?_) #[true, true, true, true, true, true, true, true, true, true, true, true, true, true, true, true, true, true, true, true, true, true, true, true, true, true, true, true, false, false, false, false, false] rfl rfl (any_of HT_.out (by kernel_rfl)) (fun _ _ _ h => h) (Or.inl ⟨by rfl, ?_⟩) ?_ ?_
                                                rotate_left
                                                · intro w'
                                                  go_simp
                                                  with_reducible rfl
                                                rotate_left
                                                · simp only [Act.put, List.setIfInBounds_toArray, List.set_cons_zero, List.set_cons_succ, i64_w, i32_w]
                                                  rfl
                                                refine pure_ (i := 28) (N := some 109) (v := ?_) (a' := ?_) #[true, true, true, true, true, true, true, true, true, true, true, true, true, true, true, true, true, true, true, true, true, true, true, true, true, true, true, true, true, false, false, false, false] rfl rfl (any_of HT_.out (by kernel_rfl)) (fun _ _ _ h => h) (Or.inl ⟨by rfl, ?_⟩) ?_ ?_
                                                rotate_left
                                                · intro w'
                                                  go_simp
                                                  with_reducible rfl
                                                rotate_left
                                                · simp only [Act.put, List.setIfInBounds_toArray, List.set_cons_zero, List.set_cons_succ, i64_w, i32_w]
                                                  rfl
                                                refine pure_ (i := 29) (N := some 110) (v := ?_) (a' := ?_) #[true, true, true, true, true, true, true, true, true, true, true, true, true, true, true, true, true, true, true, true, true, true, true, true, true, true, true, true, true, true, false, false, false] rfl rfl (any_of HT_.out (by kernel_rfl)) (fun _ _ _ h => h) (Or.inl ⟨by rfl, ?_⟩) ?_ ?_
                                                rotate_left
                                                · intro w'
                                                  go_simp
                                                  with_reducible rfl
                                                rotate_left
                                                · simp only [Act.put, List.setIfInBounds_toArray, List.set_cons_zero, List.set_cons_succ, i64_w, i32_w]
                                                  rfl
                                                refine one_ (i := 30) (N := some 111) #[true, true, true, true, true, true, true, true, true, true, true, true, true, true, true, true, true, true, true, true, true, true, true, true, true, true, true, true, true, true, true, false, false] rfl rfl (one_of HT_.out (by kernel_rfl)) (by decide) (fun K hK => ?_)
                                                refine goes_ Tryd.func13 (by kernel_rfl) rfl #[.slice A53 y211.length c53, .slice A54 y215.length c54, .int .i64 (x12_16.size : Int)] (by rfl) rfl rfl (by (try simp only [List.map_toArray, List.map_cons, List.map_nil]); first | done | rfl | (simp only [List.length_drop, List.length_take]; rfl)) ?_
                                                with_reducible refine (cohousingref07_Same.calls _ _ y211 _ _ y215 (x12_16.size : Int) true _ ?side1 ?side2 ?side3 ?side4 A44.out).mono ?_
                                                (case side1 => repeat (first | exact (by repeat (first | (with_reducible exact HR214.out) | (with_reducible refine Kd.C_alloc ?_ _) | (with_reducible refine Kd.C_drewN ?_ _) | (with_reducible refine Kd.C_drew ?_) | exact HR214.out)) | (with_reducible refine Kd.C_alloc ?_ _) | (with_reducible refine Kd.C_drewN ?_ _) | (with_reducible refine Kd.C_drew ?_)))
                                                (case side2 => exact HC214.out)
                                                (case side3 => repeat (first | exact (by repeat (first | (with_reducible exact HR218.out) | (with_reducible refine Kd.C_alloc ?_ _) | (with_reducible refine Kd.C_drewN ?_ _) | (with_reducible refine Kd.C_drew ?_) | exact HR218.out)) | (with_reducible refine Kd.C_alloc ?_ _) | (with_reducible refine Kd.C_drewN ?_ _) | (with_reducible refine Kd.C_drew ?_)))
                                                (case side4 => exact HC218.out)
                                                rintro e w55 ⟨rfl, hb⟩
                                                refine ⟨_, rfl, ?_⟩
                                                have n0_ := Aside0.mk (Kd.R_below (by (with_reducible repeat (first | apply Kd.R_alloc | apply Kd.R_drewN | apply Kd.R_drew)); exact HO_8.out) hb)
                                                have n1_ := Aside0.mk (Kd.R_below (by (with_reducible repeat (first | apply Kd.R_alloc | apply Kd.R_drewN | apply Kd.R_drew)); exact HO201.out) hb)
                                                have n2_ := Aside0.mk (Kd.C_below (by repeat (first | (with_reducible exact HR205.out) | (with_reducible refine Kd.C_alloc ?_ _) | (with_reducible refine Kd.C_drewN ?_ _) | (with_reducible refine Kd.C_drew ?_) | exact HR205.out)) hb)
                                                have n3_ := Aside0.mk (Kd.C_below (by repeat (first | (with_reducible exact HR209.out) | (with_reducible refine Kd.C_alloc ?_ _) | (with_reducible refine Kd.C_drewN ?_ _) | (with_reducible refine Kd.C_drew ?_) | exact HR209.out)) hb)
                                                have n4_ := Aside0.mk (Kd.C_below (by repeat (first | (with_reducible exact HR214.out) | (with_reducible refine Kd.C_alloc ?_ _) | (with_reducible refine Kd.C_drewN ?_ _) | (with_reducible refine Kd.C_drew ?_) | exact HR214.out)) hb)
                                                have n5_ := Aside0.mk (Kd.C_below (by repeat (first | (with_reducible exact HR218.out) | (with_reducible refine Kd.C_alloc ?_ _) | (with_reducible refine Kd.C_drewN ?_ _) | (with_reducible refine Kd.C_drew ?_) | exact HR218.out)) hb)
                                                have n6_ := Aside0.mk (below_step (by repeat (first | (with_reducible first | exact HB.out | apply below_alloc | apply pw_below_drewN | apply below_drew1) | exact HB.out)) hb)
                                                clear HO_8
                                                clear HO201
                                                clear HR205
                                                clear HR209
                                                clear HR214
                                                clear HR218
                                                clear HB
                                                have HO_8 := n0_
                                                have HO201 := n1_
                                                have HR205 := n2_
                                                have HR209 := n3_
                                                have HR214 := n4_
                                                have HR218 := n5_
                                                have HB := n6_
                                                clear n0_ n1_ n2_ n3_ n4_ n5_ n6_
                                                (try clear hb)
                                                (try clear hb2)
                                                (try clear hk)
                                                (try clear hi)
                                                refine hK.out _ _ trivial (fun hHeld => ?_)
                                                clear hK K
                                                refine norm_ (a' := ?_) ?_ ?_
                                                rotate_left
                                                · show Act.put _ (some 111) _ = _
                                                  simp only [Act.put, List.setIfInBounds_toArray, List.set_cons_zero, List.set_cons_succ, i64_w, i32_w]
                                                  rfl
                                                refine pure_ (i := 31) (N := some 112) (v := ?_) (a' := ?_) #[true, true, true, true, true, true, true, true, true, true, true, true, true, true, true, true, true, true, true, true, true, true, true, true, true, true, true, true, true, true, true, true, false] rfl rfl (any_of HT_.out (by kernel_rfl)) (fun _ _ _ h => h) (Or.inl ⟨by rfl, ?_⟩) ?_ ?_
                                                rotate_left
                                                · intro w'
                                                  go_simp
                                                  with_reducible rfl
                                                rotate_left
                                                · simp only [Act.put, List.setIfInBounds_toArray, List.set_cons_zero, List.set_cons_succ, i64_w, i32_w]
                                                  rfl
                                                refine pure_ (i := 32) (N := some 6) (v := ?_) (a' := ?_) #[true, true, true, true, true, true, true, true, true, true, true, true, true, true, true, true, true, true, true, true, true, true, true, true, true, true, true, true, true, true, true, true, true] rfl rfl (any_of HT_.out (by kernel_rfl)) (fun _ _ _ h => h) (Or.inl ⟨by rfl, ?_⟩) ?_ ?_
                                                rotate_left
                                                · intro w'
                                                  go_simp
                                                  with_reducible rfl
                                                rotate_left
                                                · simp only [Act.put, List.setIfInBounds_toArray, List.set_cons_zero, List.set_cons_succ, i64_w, i32_w]
                                                  rfl
                                                refine done_ (done_of HT_.out (by kernel_rfl)) ?_
                                                try go_wp2
                                                go_ret
                                                exact ⟨by first | rfl | (simp [errW_none, errW_some] <;> rfl) | (simp [*, errW_none, errW_some] <;> rfl), by repeat (first | (with_reducible first | exact HB.out | apply below_alloc | apply pw_below_drewN | apply below_drew1) | exact HB.out)⟩
                                              · replace c45 := Bool.eq_false_iff.mpr c45
                                                subst c45
                                                have H1 : (none) = some r := by rw [if_neg (show ¬ (false = true) by decide)] at H; exact H
                                                clear H
                                                have H := H1
                                                clear H1
                                                exact absurd H (by simp)
                                            · replace c39 := Bool.eq_false_iff.mpr c39
                                              subst c39
                                              have H1 : (none) = some r := by rw [if_neg (show ¬ (false = true) by decide)] at H; exact H
                                              clear H
                                              have H := H1
                                              clear H1
                                              exact absurd H (by simp)
                                          · rw [if_neg c37] at H
                                            exact absurd H (by simp)
                                        · rw [if_neg c35] at H
                                          exact absurd H (by simp)
                                      · rw [if_neg c34] at H
                                        exact absurd H (by simp)
                                    · rw [if_neg c33] at H
                                      have c33b0 : ((t197.length : Int) == (t190.length : Int)) = false := beq_eq_false_iff_ne.mpr c33
                                      have c33b1 : ((t197.length : Int) != (t190.length : Int)) = true := bne_iff_ne.mpr c33
                                      have c33b2 : (t197.length == t190.length) = false := by first | simpa using c33 | (simp at c33 ⊢; omega)
                                      exact absurd H (by simp)
                                  · rw [if_neg c32] at H
                                    have c32b0 : (t198 == 0) = false := beq_eq_false_iff_ne.mpr c32
                                    have c32b1 : (t198 != 0) = true := bne_iff_ne.mpr c32
                                    exact absurd H (by simp)
                                · rw [if_neg c30] at H
                                  exact absurd H (by simp)
                              · rw [if_neg c27] at H
                                exact absurd H (by simp)
                            · rw [if_neg c26] at H
                              exact absurd H (by simp)
                          · rw [if_neg c25] at H
                            exact absurd H (by simp)
  · replace c5 := Bool.eq_false_iff.mpr c5
    subst c5
    have H1 : (none) = some r := by rw [if_neg (show ¬ (false = true) by decide)] at H; exact H
    clear H
    have H := H1
    clear H1
    exact absurd H (by simp)

end Go.Proofs.YtmpjoaljincclaaDoor.X
