-- Written by a program of mine (wip/tools/xprint.py) over the kit's print.py: printed functions and hand-proved ones side by side.
import Derived.Test.YthcjocojngochaaGreatDoorXx3
import Derived.Test.YthcjocojngochaaGreatDoorXx11
import Derived.Test.YthcjocojngochaaGreatDoorXx13
import Derived.Test.YthcjocojngochaaGreatDoorXx16
import Derived.Test.YthcjocojngochaaGreatDoorXx0
import Derived.Test.YthcjocojngochaaGreatDoorXx12
import Derived.Test.YthcjocojngochaaGreatDoorXx14
namespace Go.Proofs.YthcjocojngochaaGreatDoor.X
open Go.RowKit Go.Proofs.YthcjocojngochaaGreatDoorW.PrintWords Go.Proofs.YthcjocojngochaaGreatDoorW.PrintLast Go.Proofs.YthcjocojngochaaGreatDoorW.PrintMore
attribute [local go_sem] max2_int min2_int max_two min_two max_three min_three max_four min_four   -- for this text's walks alone
set_option linter.unusedVariables false
set_option linter.unusedSimpArgs false

/-! ### span_Without: function 28 -/
-- by hand: cohousing/span.Without
section
open Go.Sort (grow alloc_eq_grow grow_grow)
theorem keep36 (x y : Bool) (W : World) : Calls Tryz.prog 60 #[.bool x, .bool y] W fun e w' => e = .returned (.bool (x && !y)) ∧ w' = W := by
  cases x <;> cases y <;> (go_enter Tryz.func60, Tryz.ntmps60; go_wp2; go_ret; exact ⟨rfl, rfl⟩)
/-- The days of the first one that the second one has not. -/
def span_Without.f (k : Nat) (l0 l1 : List S24) : Option (List S24 × Int) := sweepO (fun x y => x && !y) k l0 l1
theorem span_Without.mono : ∀ l0 l1 k, LeO (span_Without.f k l0 l1) (span_Without.f (k + 1) l0 l1) := fun l0 l1 k => sweepO_mono _ k l0 l1
set_option maxHeartbeats 4000000 in
theorem span_Without.calls (k : Nat) (A0 : Option Addr) (c0 : Nat) (l0 : List S24) (A1 : Option Addr) (c1 : Nat) (l1 : List S24) (r1 : List S24) (r2 : Int) (w : World) (hr0 : Kd.C k24 w A0 l0.length l0) (hc0 : l0.length ≤ c0) (hr1 : Kd.C k24 w A1 l1.length l1) (hc1 : l1.length ≤ c1) (h : span_Without.f k l0 l1 = some (r1, r2)) :
    Calls Tryz.prog 28 #[.slice A0 l0.length c0, .slice A1 l1.length c1] w fun e w' => ∃ v0_ : Value, e = .returned (.tuple #[v0_, .int .i64 r2]) ∧ Kd.R k24 24 w' w.heap.size (fun _ => True) v0_ r1 ∧ Below w.heap.size w w' := by
  have HS := Lib.hid (sweep_all _ 60 keep36 (enters_of Tryz.func60 (by kernel_rfl) rfl) k A0 A1 c0 c1 l0 l1 r1 r2 w hr0 hc0 hr1 hc1 h)
  clear hr0 hc0 hr1 hc1 h
  go_enter Tryz.func28, Tryz.ntmps28
  go_wp2_with (go_at_call 59; refine HS.out.mono ?_; rintro e w1 ⟨v, rfl, ho, hb⟩; have HO := Lib.hid ho; have HB := Lib.hid hb; clear ho hb)
  go_ret2
  exact ⟨_, rfl, HO.out, HB.out⟩

end

/-! ### cohousinglaw16_FactsDiffers: function 8 -/
def cohousinglaw16_FactsDiffers.l0 : Nat → Int → ByteArray → Int → Int → Bool → List (S24) → List (S24) → Int → List (S24) → List (S26) → Int → Int → Option (Bool)
  | 0, _, _, _, _, _, _, _, _, _, _, _, _ => none
  | k + 1, x1, x2, x3, x4, x11, x12, x14, x15, x16, x59, x60, x61 => if x61 < x60 then (if 0 ≤ x61 then (if x61 < (x59.length : Int) then (if ((rd_T26 x59 x61).f0) = x1 then (if ((rd_T26 x59 x61).f1).toList = x2.toList then (if ((rd_T26 x59 x61).f4) > (mn x3 x4) then (if ((rd_T26 x59 x61).f4) ≤ (mx x3 x4) then (if x16.length < 8796093022208 then (cohousinglaw16_FactsDiffers.l0 k x1 x2 x3 x4 x11 x12 x14 x15 (x16 ++ [(⟨(rd_T26 x59 x61).f3.f0, (rd_T26 x59 x61).f3.f1⟩ : S24)]) x59 x60 (wrap64 (x61 + 1))) else (none)) else (cohousinglaw16_FactsDiffers.l0 k x1 x2 x3 x4 x11 x12 x14 x15 x16 x59 x60 (wrap64 (x61 + 1)))) else (cohousinglaw16_FactsDiffers.l0 k x1 x2 x3 x4 x11 x12 x14 x15 x16 x59 x60 (wrap64 (x61 + 1)))) else (cohousinglaw16_FactsDiffers.l0 k x1 x2 x3 x4 x11 x12 x14 x15 x16 x59 x60 (wrap64 (x61 + 1)))) else (cohousinglaw16_FactsDiffers.l0 k x1 x2 x3 x4 x11 x12 x14 x15 x16 x59 x60 (wrap64 (x61 + 1)))) else (none)) else (none)) else ((span_Normal.f x16).bind fun bt267 => ((span_Without.f k x12 bt267.1).bind fun bt271 => (if x11 = true then (if x15 = 0 then (if bt267.2 = 0 then (if bt271.2 = 0 then ((cohousingref04_Same.f k x12 x14).bind fun t275 => (if t275 = true then (if (bt271.1.length : Int) = 0 then (some true) else (none)) else (none))) else (none)) else (none)) else (none)) else (none))))
def cohousinglaw16_FactsDiffers.f (k : Nat) (l0 : List (S26)) (a1 : Int) (a2 : ByteArray) (a3 : Int) (a4 : Int) : Option (Bool) := (cohousinglaw16_head.f k).bind fun t253 => (if t253 = true then (if (l0.length : Int) > 400 then (some true) else ((facts_Differ.f l0 a1 a2 a3 a4).bind fun bt254 => ((facts_Differ.f l0 a1 a2 a4 a3).bind fun bt258 => (if bt254.2 = 0 then (cohousinglaw16_FactsDiffers.l0 k a1 a2 a3 a4 true bt254.1 bt258.1 bt258.2 ([] : List (S24)) l0 (l0.length : Int) 0) else (if bt254.2 = bt258.2 then (if (bt254.1.length : Int) = 0 then (some true) else (none)) else (none)))))) else (none))
theorem cohousinglaw16_FactsDiffers.mono_l : ∀ k, (∀ y0 y1 y2 y3 y4 y5 y6 y7 y8 y9 y10 y11, LeO (cohousinglaw16_FactsDiffers.l0 k y0 y1 y2 y3 y4 y5 y6 y7 y8 y9 y10 y11) (cohousinglaw16_FactsDiffers.l0 (k + 1) y0 y1 y2 y3 y4 y5 y6 y7 y8 y9 y10 y11))
  | 0 => fun _ _ _ _ _ _ _ _ _ _ _ _ r h => by simp [cohousinglaw16_FactsDiffers.l0] at h
  | k + 1 => by
    have ih0 := cohousinglaw16_FactsDiffers.mono_l k
    · intro y0 y1 y2 y3 y4 y5 y6 y7 y8 y9 y10 y11
      unfold cohousinglaw16_FactsDiffers.l0
      repeat' first
      | (with_reducible exact ih0 _ _ _ _ _ _ _ _ _ _ _ _)
      | (with_reducible exact cohousinglaw16_head.mono _)
      | (with_reducible exact cohousingref04_Same.mono _ _ _)
      | (with_reducible exact span_Without.mono _ _ _)
      | (with_reducible exact LeO.refl _)
      | (with_reducible exact LeO.none _)
      | (with_reducible refine LeO.ite ?_ ?_)
      | (with_reducible refine LeO.bind ?_ (fun _ => ?_))
      | exact ih0 _ _ _ _ _ _ _ _ _ _ _ _
      | exact cohousinglaw16_head.mono _
      | exact cohousingref04_Same.mono _ _ _
      | exact span_Without.mono _ _ _
      | exact LeO.none _
      | refine LeO.ite ?_ ?_
      | refine LeO.bind ?_ (fun _ => ?_)
theorem cohousinglaw16_FactsDiffers.mono : ∀ a0 a1 a2 a3 a4 k, LeO (cohousinglaw16_FactsDiffers.f k a0 a1 a2 a3 a4) (cohousinglaw16_FactsDiffers.f (k + 1) a0 a1 a2 a3 a4) := by
  intro a0 a1 a2 a3 a4 k
  have ih0 := cohousinglaw16_FactsDiffers.mono_l k
  unfold cohousinglaw16_FactsDiffers.f
  repeat' first
      | (with_reducible exact ih0 _ _ _ _ _ _ _ _ _ _ _ _)
      | (with_reducible exact cohousinglaw16_head.mono _)
      | (with_reducible exact cohousingref04_Same.mono _ _ _)
      | (with_reducible exact span_Without.mono _ _ _)
      | (with_reducible exact LeO.refl _)
      | (with_reducible exact LeO.none _)
      | (with_reducible refine LeO.ite ?_ ?_)
      | (with_reducible refine LeO.bind ?_ (fun _ => ?_))
      | exact ih0 _ _ _ _ _ _ _ _ _ _ _ _
      | exact cohousinglaw16_head.mono _
      | exact cohousingref04_Same.mono _ _ _
      | exact span_Without.mono _ _ _
      | exact LeO.none _
      | refine LeO.ite ?_ ?_
      | refine LeO.bind ?_ (fun _ => ?_)
set_option maxHeartbeats 8000000 in
set_option maxRecDepth 100000 in
theorem cohousinglaw16_FactsDiffers.calls (k : Nat) (A0 : Option Addr) (c0 : Nat) (l0 : List (S26)) (a1 : Int) (a2 : ByteArray) (a3 : Int) (a4 : Int) (r : Bool) (w : World) (hr0 : Kd.C k26 w A0 l0.length l0) (hc0 : l0.length ≤ c0) (h : cohousinglaw16_FactsDiffers.f k l0 a1 a2 a3 a4 = some r) :
    Calls Tryz.prog 8 #[.slice A0 l0.length c0, .int .i64 a1, .string a2, .int .i64 a3, .int .i64 a4] w fun e w' => e = .returned (.bool r) ∧ Below w.heap.size w w' := by
  have hu26 := Tryz.underlying26
  have hu24 := Tryz.underlying24
  have HR0 := Aside0.mk hr0
  have HC0 := Aside0.mk hc0
  clear hr0 hc0
  have HB := Aside0.mk (Below.refl w.heap.size w)
  have H : ((cohousinglaw16_head.f k).bind fun t253 => (if t253 = true then (if (l0.length : Int) > 400 then (some true) else ((facts_Differ.f l0 a1 a2 a3 a4).bind fun bt254 => ((facts_Differ.f l0 a1 a2 a4 a3).bind fun bt258 => (if bt254.2 = 0 then (cohousinglaw16_FactsDiffers.l0 k a1 a2 a3 a4 true bt254.1 bt258.1 bt258.2 ([] : List (S24)) l0 (l0.length : Int) 0) else (if bt254.2 = bt258.2 then (if (bt254.1.length : Int) = 0 then (some true) else (none)) else (none)))))) else (none))) = some r := h
  clear h
  replace H := Option.bind_eq_some_iff.mp H
  obtain ⟨t253, A60, H⟩ := H
  replace H : (if t253 = true then (if (l0.length : Int) > 400 then (some true) else ((facts_Differ.f l0 a1 a2 a3 a4).bind fun bt254 => ((facts_Differ.f l0 a1 a2 a4 a3).bind fun bt258 => (if bt254.2 = 0 then (cohousinglaw16_FactsDiffers.l0 k a1 a2 a3 a4 true bt254.1 bt258.1 bt258.2 ([] : List (S24)) l0 (l0.length : Int) 0) else (if bt254.2 = bt258.2 then (if (bt254.1.length : Int) = 0 then (some true) else (none)) else (none)))))) else (none)) = some r := H
  have A6 := Aside0.mk A60
  clear A60
  by_cases c7 : t253 = true
  · subst c7
    have H1 : (if (l0.length : Int) > 400 then (some true) else ((facts_Differ.f l0 a1 a2 a3 a4).bind fun bt254 => ((facts_Differ.f l0 a1 a2 a4 a3).bind fun bt258 => (if bt254.2 = 0 then (cohousinglaw16_FactsDiffers.l0 k a1 a2 a3 a4 true bt254.1 bt258.1 bt258.2 ([] : List (S24)) l0 (l0.length : Int) 0) else (if bt254.2 = bt258.2 then (if (bt254.1.length : Int) = 0 then (some true) else (none)) else (none)))))) = some r := by rw [if_pos rfl] at H; exact H
    clear H
    have H := H1
    clear H1
    by_cases c8 : (l0.length : Int) > 400
    · rw [if_pos c8] at H
      have c8b0 : decide (400 < (l0.length : Int)) = true := decide_eq_true c8
      have c8b1 : decide (400 < l0.length) = true := decide_eq_true (by omega)
      clear c8
      obtain rfl := Option.some.inj H
      go_enter Tryz.func8, Tryz.ntmps8
      go_wp2_with (first | ((with_reducible refine gate_callee (f := 10) rfl ?_); refine goesL_ (some 23) rfl rfl Tryz.func10 (by kernel_rfl) rfl #[] rfl (by (try simp only [List.map_toArray, List.map_cons, List.map_nil]); first | done | rfl | (simp only [List.length_drop, List.length_take]; rfl)) ?_; (with_reducible refine (cohousinglaw16_head.calls k  true _ A6.out).mono ?_); rintro e w9 ⟨rfl, hb⟩; refine ⟨_, rfl, ?_⟩; have n0_ := Aside0.mk (below_step (by repeat (first | (with_reducible first | exact HB.out | apply below_alloc | apply pw_below_drewN | apply below_drew1) | exact HB.out)) hb); clear HB; have HB := n0_; clear n0_; (try clear hb); (try clear hb2); (try clear hk); (try clear hi)))
      go_ret
      exact ⟨by first | rfl | (simp [errW_none, errW_some] <;> rfl) | (simp [*, errW_none, errW_some] <;> rfl), by repeat (first | (with_reducible first | exact HB.out | apply below_alloc | apply pw_below_drewN | apply below_drew1) | exact HB.out)⟩
    · rw [if_neg c8] at H
      have c8b0 : decide (400 < (l0.length : Int)) = false := decide_eq_false c8
      have c8b1 : decide (400 < l0.length) = false := decide_eq_false (by omega)
      clear c8
      replace H := Option.bind_eq_some_iff.mp H
      obtain ⟨⟨t254, t255⟩, A100, H⟩ := H
      replace H : ((facts_Differ.f l0 a1 a2 a4 a3).bind fun bt258 => (if t255 = 0 then (cohousinglaw16_FactsDiffers.l0 k a1 a2 a3 a4 true t254 bt258.1 bt258.2 ([] : List (S24)) l0 (l0.length : Int) 0) else (if t255 = bt258.2 then (if (t254.length : Int) = 0 then (some true) else (none)) else (none)))) = some r := H
      have A10 := Aside0.mk A100
      clear A100
      replace H := Option.bind_eq_some_iff.mp H
      obtain ⟨⟨t258, t259⟩, A110, H⟩ := H
      replace H : (if t255 = 0 then (cohousinglaw16_FactsDiffers.l0 k a1 a2 a3 a4 true t254 t258 t259 ([] : List (S24)) l0 (l0.length : Int) 0) else (if t255 = t259 then (if (t254.length : Int) = 0 then (some true) else (none)) else (none))) = some r := H
      have A11 := Aside0.mk A110
      clear A110
      by_cases c12 : t255 = 0
      · rw [if_pos c12] at H
        have c12b0 : (t255 == 0) = true := beq_iff_eq.mpr c12
        have c12b1 : (t255 != 0) = false := bne_eq_false_iff_eq.mpr c12
        clear c12
        have H' := Aside0.mk H
        clear H
        go_enter Tryz.func8, Tryz.ntmps8
        go_wp2_with (first | ((with_reducible refine gate_callee (f := 10) rfl ?_); refine goesL_ (some 23) rfl rfl Tryz.func10 (by kernel_rfl) rfl #[] rfl (by (try simp only [List.map_toArray, List.map_cons, List.map_nil]); first | done | rfl | (simp only [List.length_drop, List.length_take]; rfl)) ?_; (with_reducible refine (cohousinglaw16_head.calls k  true _ A6.out).mono ?_); rintro e w13 ⟨rfl, hb⟩; refine ⟨_, rfl, ?_⟩; have n0_ := Aside0.mk (below_step (by repeat (first | (with_reducible first | exact HB.out | apply below_alloc | apply pw_below_drewN | apply below_drew1) | exact HB.out)) hb); clear HB; have HB := n0_; clear n0_; (try clear hb); (try clear hb2); (try clear hk); (try clear hi)) | ((with_reducible refine gate_callee (f := 15) rfl ?_); refine goesL_ (some 34) rfl rfl Tryz.func15 (by kernel_rfl) rfl #[.slice A0 l0.length c0, .int .i64 a1, .string a2, .int .i64 a3, .int .i64 a4] rfl (by (try simp only [List.map_toArray, List.map_cons, List.map_nil]); first | done | rfl | (simp only [List.length_drop, List.length_take]; rfl)) ?_; (with_reducible refine (facts_Differ.calls _ _ l0 a1 a2 a3 a4 t254 t255 _ ?side1 ?side2 A10.out).mono ?_); (case side1 => repeat (first | exact (Kd.C_below HR0.out HB.out) | (with_reducible refine Kd.C_alloc ?_ _) | (with_reducible refine Kd.C_drewN ?_ _) | (with_reducible refine Kd.C_drew ?_))); (case side2 => exact HC0.out); rintro e w14 ⟨v256, rfl, ho0, hb⟩; refine ⟨_, rfl, ?_⟩; have n0_ := Aside0.mk (Kd.R_lower ho0 (below_size (by repeat (first | (with_reducible first | exact HB.out | apply below_alloc | apply pw_below_drewN | apply below_drew1) | exact HB.out)))); have n1_ := Aside0.mk (below_step (by repeat (first | (with_reducible first | exact HB.out | apply below_alloc | apply pw_below_drewN | apply below_drew1) | exact HB.out)) hb); clear HB; have HO257 := n0_; have HB := n1_; clear n0_ n1_; (try clear hb); (try clear hb2); (try clear hk); (try clear hi); (try clear ho0)) | ((with_reducible refine gate_callee (f := 15) rfl ?_); refine goesL_ (some 43) rfl rfl Tryz.func15 (by kernel_rfl) rfl #[.slice A0 l0.length c0, .int .i64 a1, .string a2, .int .i64 a4, .int .i64 a3] rfl (by (try simp only [List.map_toArray, List.map_cons, List.map_nil]); first | done | rfl | (simp only [List.length_drop, List.length_take]; rfl)) ?_; (with_reducible refine (facts_Differ.calls _ _ l0 a1 a2 a4 a3 t258 t259 _ ?side1 ?side2 A11.out).mono ?_); (case side1 => repeat (first | exact (Kd.C_below HR0.out HB.out) | (with_reducible refine Kd.C_alloc ?_ _) | (with_reducible refine Kd.C_drewN ?_ _) | (with_reducible refine Kd.C_drew ?_))); (case side2 => exact HC0.out); rintro e w15 ⟨v260, rfl, ho0, hb⟩; refine ⟨_, rfl, ?_⟩; have n0_ := Aside0.mk (Kd.R_elder' (by (with_reducible repeat (first | apply Kd.R_alloc | apply Kd.R_drewN | apply Kd.R_drew)); exact HO257.out) (Kd.R_base ho0) hb); have n1_ := Aside0.mk (Kd.R_lower (Kd.R_new' ho0 (Kd.R_lt (by (with_reducible repeat (first | apply Kd.R_alloc | apply Kd.R_drewN | apply Kd.R_drew)); exact HO257.out))) (below_size (by repeat (first | (with_reducible first | exact HB.out | apply below_alloc | apply pw_below_drewN | apply below_drew1) | exact HB.out)))); have n2_ := Aside0.mk (below_step (by repeat (first | (with_reducible first | exact HB.out | apply below_alloc | apply pw_below_drewN | apply below_drew1) | exact HB.out)) hb); clear HO257; clear HB; have HO257 := n0_; have HO261 := n1_; have HB := n2_; clear n0_ n1_ n2_; (try clear hb); (try clear hb2); (try clear hk); (try clear hi); (try clear ho0)))
        go_loopg [16, 61] k (fun kq v16 v61 w' => ∃ (x16_1 : List (S24)) (x61_1 : Int), v61 = .int .i64 x61_1 ∧ Aside0 (cohousinglaw16_FactsDiffers.l0 kq a1 a2 a3 a4 true t254 t258 t259 x16_1 l0 (l0.length : Int) x61_1 = some r) ∧ Aside0 (kq ≤ k) ∧ Aside0 (Kd.R k24 24 w' w.heap.size (fun k_ => some k_ ≠ (v260 : Value).ownBlock ∧ some k_ ≠ (v16 : Value).ownBlock) v256 t254) ∧ Aside0 (Kd.R k24 24 w' w.heap.size (fun k_ => some k_ ≠ (v256 : Value).ownBlock ∧ some k_ ≠ (v16 : Value).ownBlock) v260 t258) ∧ Aside0 (Kd.R k24 24 w' w.heap.size (fun k_ => some k_ ≠ (v256 : Value).ownBlock ∧ some k_ ≠ (v260 : Value).ownBlock) v16 x16_1) ∧ Aside0 (Below w.heap.size w w'))
        case atStart => exact ⟨(([] : List (S24))), (0), (by first | rfl | (simp; done) | (simp [*]; done)), H', ⟨Nat.le_refl _⟩, ⟨by (with_reducible repeat (first | apply Kd.R_alloc | apply Kd.R_drewN | apply Kd.R_drew)); exact Kd.R_mono HO257.out (fun _ hk => ⟨hk.2, (by simp [Value.ownBlock])⟩)⟩, ⟨by (with_reducible repeat (first | apply Kd.R_alloc | apply Kd.R_drewN | apply Kd.R_drew)); exact Kd.R_mono HO261.out (fun _ hk => ⟨hk.2, (by simp [Value.ownBlock])⟩)⟩, ⟨by first | exact Kd.R_nil _ _ _ _ _ | exact Kd.N_nil _ _ _ _ _ | exact Kd.V_nil _ _ _ _ _ | exact Kd.Q_nil _ _ _ _ _ | exact Kd.S_nil _ _ _ _ _⟩, ⟨by repeat (first | (with_reducible first | exact HB.out | apply below_alloc | apply pw_below_drewN | apply below_drew1) | exact HB.out)⟩⟩
        case round =>
          clear H'
          try clear c1
          try clear p2
          try clear c7
          try clear c8
          try clear c8b0
          try clear c8b1
          try clear c10
          try clear c12
          try clear c12b0
          try clear c12b1
          try clear c15
          obtain ⟨x16_1, x61_1, rfl, HA, HK1, HO_12, HO_14, HO_16, HB⟩ := hrel
          cases gk with
          | zero => exact absurd HA.out (by simp [cohousinglaw16_FactsDiffers.l0])
          | succ k1 =>
            have H := HA.out
            clear HA
            simp only [cohousinglaw16_FactsDiffers.l0] at H
            by_cases c16 : x61_1 < (l0.length : Int)
            · rw [if_pos c16] at H
              have c16b0 : decide (x61_1 < (l0.length : Int)) = true := decide_eq_true c16
              clear c16
              by_cases c17 : 0 ≤ x61_1
              · rw [if_pos c17] at H
                have c17b0 : decide (0 ≤ x61_1) = true := decide_eq_true c17
                clear c17
                by_cases c18 : x61_1 < (l0.length : Int)
                · rw [if_pos c18] at H
                  have c18b0 : decide (x61_1 < (l0.length : Int)) = true := decide_eq_true c18
                  clear c18
                  by_cases c19 : ((rd_T26 l0 x61_1).f0) = a1
                  · rw [if_pos c19] at H
                    have c19b0 : (((rd_T26 l0 x61_1).f0) == a1) = true := beq_iff_eq.mpr c19
                    have c19b1 : (((rd_T26 l0 x61_1).f0) != a1) = false := bne_eq_false_iff_eq.mpr c19
                    clear c19
                    by_cases c20 : ((rd_T26 l0 x61_1).f1).toList = a2.toList
                    · rw [if_pos c20] at H
                      have c20b0 : (((rd_T26 l0 x61_1).f1).toList == a2.toList) = true := beq_iff_eq.mpr c20
                      have c20b1 : (((rd_T26 l0 x61_1).f1).toList != a2.toList) = false := bne_eq_false_iff_eq.mpr c20
                      clear c20
                      obtain ⟨ji21, hji21⟩ : ∃ j_ : Int, (mn a3 a4) = j_ := ⟨_, rfl⟩
                      replace H : (if ((rd_T26 l0 x61_1).f4) > (ji21) then (if ((rd_T26 l0 x61_1).f4) ≤ (mx a3 a4) then (if x16_1.length < 8796093022208 then (cohousinglaw16_FactsDiffers.l0 k1 a1 a2 a3 a4 true t254 t258 t259 (x16_1 ++ [(⟨(rd_T26 l0 x61_1).f3.f0, (rd_T26 l0 x61_1).f3.f1⟩ : S24)]) l0 (l0.length : Int) (wrap64 (x61_1 + 1))) else (none)) else (cohousinglaw16_FactsDiffers.l0 k1 a1 a2 a3 a4 true t254 t258 t259 x16_1 l0 (l0.length : Int) (wrap64 (x61_1 + 1)))) else (cohousinglaw16_FactsDiffers.l0 k1 a1 a2 a3 a4 true t254 t258 t259 x16_1 l0 (l0.length : Int) (wrap64 (x61_1 + 1)))) = some r := by first | (rw [hji21] at H; exact H) | (simp only [hji21] at H ⊢; exact H)
                      have hji21_ : (if a4 < a3 then a4 else a3) = ji21 := hji21
                      by_cases c22 : ((rd_T26 l0 x61_1).f4) > (ji21)
                      · rw [if_pos c22] at H
                        have c22b0 : decide ((ji21) < ((rd_T26 l0 x61_1).f4)) = true := decide_eq_true c22
                        clear c22
                        obtain ⟨ji23, hji23⟩ : ∃ j_ : Int, (mx a3 a4) = j_ := ⟨_, rfl⟩
                        replace H : (if ((rd_T26 l0 x61_1).f4) ≤ (ji23) then (if x16_1.length < 8796093022208 then (cohousinglaw16_FactsDiffers.l0 k1 a1 a2 a3 a4 true t254 t258 t259 (x16_1 ++ [(⟨(rd_T26 l0 x61_1).f3.f0, (rd_T26 l0 x61_1).f3.f1⟩ : S24)]) l0 (l0.length : Int) (wrap64 (x61_1 + 1))) else (none)) else (cohousinglaw16_FactsDiffers.l0 k1 a1 a2 a3 a4 true t254 t258 t259 x16_1 l0 (l0.length : Int) (wrap64 (x61_1 + 1)))) = some r := by first | (rw [hji23] at H; exact H) | (simp only [hji23] at H ⊢; exact H)
                        have hji23_ : (if a3 < a4 then a4 else a3) = ji23 := hji23
                        by_cases c24 : ((rd_T26 l0 x61_1).f4) ≤ (ji23)
                        · rw [if_pos c24] at H
                          have c24b0 : decide (((rd_T26 l0 x61_1).f4) ≤ (ji23)) = true := decide_eq_true c24
                          clear c24
                          by_cases c25 : x16_1.length < 8796093022208
                          · rw [if_pos c25] at H
                            have LMc25 := Aside0.mk c25
                            clear c25
                            obtain ⟨y264, hy264⟩ : ∃ y_ : List (S24), y_ = (x16_1 ++ [(⟨(rd_T26 l0 x61_1).f3.f0, (rd_T26 l0 x61_1).f3.f1⟩ : S24)]) := ⟨_, rfl⟩
                            replace H : (cohousinglaw16_FactsDiffers.l0 k1 a1 a2 a3 a4 true t254 t258 t259 y264 l0 (l0.length : Int) (wrap64 (x61_1 + 1))) = some r := by first | (rw [hy264]; with_reducible exact H) | (have H2_ := (Option.bind_some _ _).symm.trans H; rw [hy264]; with_reducible exact H2_) | (have H2_ := (Option.bind_some _ _).symm.trans H; with_reducible exact H2_) | with_reducible exact H | (rw [hy264]; exact H) | exact H
                            have Ny264 := Aside0.mk hy264
                            clear hy264
                            have H' := Aside0.mk H
                            clear H
                            have p262 : 0 ≤ (x61_1 : Int) := of_decide_eq_true (by first | (with_reducible assumption) | assumption)
                            have q262 : x61_1 < (l0.length : Int) := of_decide_eq_true (by first | (with_reducible assumption) | assumption)
                            obtain ⟨ad262, e262, hx262_0, hx262_1, hx262_2, hx262_3, hx262_4, hx262_5, hx262_6⟩ := at_T26 HR0.out x61_1 p262 q262
                            cases e262
                            replace hx262_0 := (HB.out.cell (World.block_lt_of_cell? w _ hx262_0)).trans hx262_0
                            replace hx262_1 := (HB.out.cell (World.block_lt_of_cell? w _ hx262_1)).trans hx262_1
                            replace hx262_2 := (HB.out.cell (World.block_lt_of_cell? w _ hx262_2)).trans hx262_2
                            replace hx262_3 := (HB.out.cell (World.block_lt_of_cell? w _ hx262_3)).trans hx262_3
                            replace hx262_4 := (HB.out.cell (World.block_lt_of_cell? w _ hx262_4)).trans hx262_4
                            replace hx262_5 := (HB.out.cell (World.block_lt_of_cell? w _ hx262_5)).trans hx262_5
                            replace hx262_6 := (HB.out.cell (World.block_lt_of_cell? w _ hx262_6)).trans hx262_6
                            replace p262 := eq_true p262
                            replace q262 := eq_true q262
                            go_wp2_with (first | ((with_reducible refine gate_dst (N := 18) rfl ?_); (try (refine gate_guard (by rfl) ?_; dsimp only)); refine box_event ?hg (N := 18) ?hd (cs := #[.int .i64 0, .string (⟨#[]⟩ : ByteArray), .int .i64 0, .int .i64 0, .int .i64 0, .int .i64 0, .bool false]) (t := 26) ?hr ?_; (case hd => rfl); (case hg => rfl); (case hr => first | (go_simp; done) | (go_simp; rfl)); intro gb263 hg w26 hbox hb; have n0_ := Aside0.mk (Kd.R_below (by (with_reducible repeat (first | apply Kd.R_alloc | apply Kd.R_drewN | apply Kd.R_drew)); exact HO_12.out) hb); have n1_ := Aside0.mk (Kd.R_below (by (with_reducible repeat (first | apply Kd.R_alloc | apply Kd.R_drewN | apply Kd.R_drew)); exact HO_14.out) hb); have n2_ := Aside0.mk (Kd.R_below (by (with_reducible repeat (first | apply Kd.R_alloc | apply Kd.R_drewN | apply Kd.R_drew)); exact HO_16.out) hb); have n3_ := Aside0.mk (below_step (by repeat (first | (with_reducible first | exact HB.out | apply below_alloc | apply pw_below_drewN | apply below_drew1) | exact HB.out)) hb); have n4_ := Aside0.mk (hbox); have n5_ := Aside0.mk ((by rw [hg]; exact (below_size (by repeat (first | (with_reducible first | exact HB.out | apply below_alloc | apply pw_below_drewN | apply below_drew1) | exact HB.out))) : w.heap.size ≤ gb263)); have n6_ := Aside0.mk ((by rw [hg]; exact (below_size (by repeat (first | (with_reducible first | exact HB.out | apply below_alloc | apply pw_below_drewN | apply below_drew1) | exact HB.out))) : w.heap.size ≤ gb263)); clear HO_12; clear HO_14; clear HO_16; clear HB; have HO_12 := n0_; have HO_14 := n1_; have HO_16 := n2_; have HB := n3_; have BK263 := n4_; have GW263 := n5_; have GE263 := n6_; clear n0_ n1_ n2_ n3_ n4_ n5_ n6_; clear hb hbox hg; have hcz27_0 : w26.cell? ⟨gb263, 0, none⟩ = some (.int .i64 0) := (blk_cell BK263.out 0).trans rfl; have hcz27_1 : w26.cell? ⟨gb263, 1, none⟩ = some (.string (⟨#[]⟩ : ByteArray)) := (blk_cell BK263.out 1).trans rfl; have hcz27_2 : w26.cell? ⟨gb263, 2, none⟩ = some (.int .i64 0) := (blk_cell BK263.out 2).trans rfl; have hcz27_3 : w26.cell? ⟨gb263, 3, none⟩ = some (.int .i64 0) := (blk_cell BK263.out 3).trans rfl; have hcz27_4 : w26.cell? ⟨gb263, 4, none⟩ = some (.int .i64 0) := (blk_cell BK263.out 4).trans rfl; have hcz27_5 : w26.cell? ⟨gb263, 5, none⟩ = some (.int .i64 0) := (blk_cell BK263.out 5).trans rfl; have hcz27_6 : w26.cell? ⟨gb263, 6, none⟩ = some (.bool false) := (blk_cell BK263.out 6).trans rfl; have hfz27_0 := blk_frozen BK263.out 0; have hfz27_1 := blk_frozen BK263.out 1; have hfz27_2 := blk_frozen BK263.out 2; have hfz27_3 := blk_frozen BK263.out 3; have hfz27_4 := blk_frozen BK263.out 4; have hfz27_5 := blk_frozen BK263.out 5; have hfz27_6 := blk_frozen BK263.out 6) | ((with_reducible refine gate_builtin (b := .append) (xs := #[.tmp 91, .tmp 94]) rfl ?_); (try (refine gate_guard (by rfl) ?_; dsimp only)); at_builtin; refine Kd.R_append k24 (w0 := w) w.heap.size rfl (.tmp 91) (.tmp 94) 33 24 (.agg #[(.int .i64 0), (.int .i64 0)]) 16 rfl Tryz.underlying33 info24 rfl (by decide) (by omega) u16 x16_1 (⟨(rd_T26 l0 x61_1).f3.f0, (rd_T26 l0 x61_1).f3.f1⟩ : S24) [.int .i64 ((rd_T26 l0 x61_1).f3.f0), .int .i64 ((rd_T26 l0 x61_1).f3.f1)] (fun k_ => some k_ ≠ (v256 : Value).ownBlock ∧ some k_ ≠ (v260 : Value).ownBlock) (fun _ => False) rfl (by first | (go_simp; done) | (go_simp; rfl)) ?aP (fun _ hk => hk.elim) ?aF ?aO ?aB ?aS ?aL ?_; (case aP => exact k24_mkM _ _ _ (⟨(rd_T26 l0 x61_1).f3.f0, (rd_T26 l0 x61_1).f3.f1⟩ : S24)); (case aB => exact (by repeat (first | (with_reducible first | exact HB.out | apply below_alloc | apply pw_below_drewN | apply below_drew1 | refine below_set ?_ GE263.out) | exact HB.out))); (case aF => exact (fun k_ hk => ⟨Kd.fresh' (Kd.R_lt (by (with_reducible repeat (first | apply Kd.R_alloc | apply Kd.R_drewN | apply Kd.R_drew)); exact (Kd.R_mono (Kd.R_far (p := ⟨gb263, 6, none⟩) (Kd.R_far (p := ⟨gb263, 5, none⟩) (Kd.R_far (p := ⟨gb263, 4, none⟩) (Kd.R_far (p := ⟨gb263, 3, none⟩) (Kd.R_far (p := ⟨gb263, 2, none⟩) (Kd.R_far (p := ⟨gb263, 1, none⟩) (Kd.R_far (p := ⟨gb263, 0, none⟩) (Kd.R_types HO_12.out BK263.out (by decide)) (fun _ hk => hk.2) (.int .i64 ((rd_T26 l0 x61_1).f0))) (fun _ hk => hk.2) (.string ((rd_T26 l0 x61_1).f1))) (fun _ hk => hk.2) (.int .i64 ((rd_T26 l0 x61_1).f2))) (fun _ hk => hk.2) (.int .i64 ((rd_T26 l0 x61_1).f3.f0))) (fun _ hk => hk.2) (.int .i64 ((rd_T26 l0 x61_1).f3.f1))) (fun _ hk => hk.2) (.int .i64 ((rd_T26 l0 x61_1).f4))) (fun _ hk => hk.2) (.bool ((rd_T26 l0 x61_1).f5))) (fun _ h_ => h_.1)))) k_ hk, Kd.fresh' (Kd.R_lt (by (with_reducible repeat (first | apply Kd.R_alloc | apply Kd.R_drewN | apply Kd.R_drew)); exact (Kd.R_mono (Kd.R_far (p := ⟨gb263, 6, none⟩) (Kd.R_far (p := ⟨gb263, 5, none⟩) (Kd.R_far (p := ⟨gb263, 4, none⟩) (Kd.R_far (p := ⟨gb263, 3, none⟩) (Kd.R_far (p := ⟨gb263, 2, none⟩) (Kd.R_far (p := ⟨gb263, 1, none⟩) (Kd.R_far (p := ⟨gb263, 0, none⟩) (Kd.R_types HO_14.out BK263.out (by decide)) (fun _ hk => hk.2) (.int .i64 ((rd_T26 l0 x61_1).f0))) (fun _ hk => hk.2) (.string ((rd_T26 l0 x61_1).f1))) (fun _ hk => hk.2) (.int .i64 ((rd_T26 l0 x61_1).f2))) (fun _ hk => hk.2) (.int .i64 ((rd_T26 l0 x61_1).f3.f0))) (fun _ hk => hk.2) (.int .i64 ((rd_T26 l0 x61_1).f3.f1))) (fun _ hk => hk.2) (.int .i64 ((rd_T26 l0 x61_1).f4))) (fun _ hk => hk.2) (.bool ((rd_T26 l0 x61_1).f5))) (fun _ h_ => h_.1)))) k_ hk⟩)); (case aO => exact (by (with_reducible repeat (first | apply Kd.R_alloc | apply Kd.R_drewN | apply Kd.R_drew)); exact Kd.R_mono (Kd.R_far (p := ⟨gb263, 6, none⟩) (Kd.R_far (p := ⟨gb263, 5, none⟩) (Kd.R_far (p := ⟨gb263, 4, none⟩) (Kd.R_far (p := ⟨gb263, 3, none⟩) (Kd.R_far (p := ⟨gb263, 2, none⟩) (Kd.R_far (p := ⟨gb263, 1, none⟩) (Kd.R_far (p := ⟨gb263, 0, none⟩) (Kd.R_types HO_16.out BK263.out (by decide)) (fun _ hk => hk.2) (.int .i64 ((rd_T26 l0 x61_1).f0))) (fun _ hk => hk.2) (.string ((rd_T26 l0 x61_1).f1))) (fun _ hk => hk.2) (.int .i64 ((rd_T26 l0 x61_1).f2))) (fun _ hk => hk.2) (.int .i64 ((rd_T26 l0 x61_1).f3.f0))) (fun _ hk => hk.2) (.int .i64 ((rd_T26 l0 x61_1).f3.f1))) (fun _ hk => hk.2) (.int .i64 ((rd_T26 l0 x61_1).f4))) (fun _ hk => hk.2) (.bool ((rd_T26 l0 x61_1).f5))) (fun _ hk => ⟨hk.1.1, hk.1.2⟩))); (case aS => exact (below_size (by repeat (first | (with_reducible first | exact HB.out | apply below_alloc | apply pw_below_drewN | apply below_drew1 | refine below_set ?_ GE263.out) | exact HB.out)))); (case aL => have := LMc25.out; omega); intro v265 w28 ho hb hg hat; rw [← Ny264.out] at ho; have n0_ := Aside0.mk (Kd.R_after (ok := (fun k_ => some k_ ≠ (v260 : Value).ownBlock)) (by (with_reducible repeat (first | apply Kd.R_alloc | apply Kd.R_drewN | apply Kd.R_drew)); exact Kd.R_mono (Kd.R_far (p := ⟨gb263, 6, none⟩) (Kd.R_far (p := ⟨gb263, 5, none⟩) (Kd.R_far (p := ⟨gb263, 4, none⟩) (Kd.R_far (p := ⟨gb263, 3, none⟩) (Kd.R_far (p := ⟨gb263, 2, none⟩) (Kd.R_far (p := ⟨gb263, 1, none⟩) (Kd.R_far (p := ⟨gb263, 0, none⟩) (Kd.R_types HO_12.out BK263.out (by decide)) (fun _ hk => hk.2) (.int .i64 ((rd_T26 l0 x61_1).f0))) (fun _ hk => hk.2) (.string ((rd_T26 l0 x61_1).f1))) (fun _ hk => hk.2) (.int .i64 ((rd_T26 l0 x61_1).f2))) (fun _ hk => hk.2) (.int .i64 ((rd_T26 l0 x61_1).f3.f0))) (fun _ hk => hk.2) (.int .i64 ((rd_T26 l0 x61_1).f3.f1))) (fun _ hk => hk.2) (.int .i64 ((rd_T26 l0 x61_1).f4))) (fun _ hk => hk.2) (.bool ((rd_T26 l0 x61_1).f5))) (fun _ hk => ⟨hk.1.1, hk.1.2⟩)) hg hat); have n1_ := Aside0.mk (Kd.R_after (ok := (fun k_ => some k_ ≠ (v256 : Value).ownBlock)) (by (with_reducible repeat (first | apply Kd.R_alloc | apply Kd.R_drewN | apply Kd.R_drew)); exact Kd.R_mono (Kd.R_far (p := ⟨gb263, 6, none⟩) (Kd.R_far (p := ⟨gb263, 5, none⟩) (Kd.R_far (p := ⟨gb263, 4, none⟩) (Kd.R_far (p := ⟨gb263, 3, none⟩) (Kd.R_far (p := ⟨gb263, 2, none⟩) (Kd.R_far (p := ⟨gb263, 1, none⟩) (Kd.R_far (p := ⟨gb263, 0, none⟩) (Kd.R_types HO_14.out BK263.out (by decide)) (fun _ hk => hk.2) (.int .i64 ((rd_T26 l0 x61_1).f0))) (fun _ hk => hk.2) (.string ((rd_T26 l0 x61_1).f1))) (fun _ hk => hk.2) (.int .i64 ((rd_T26 l0 x61_1).f2))) (fun _ hk => hk.2) (.int .i64 ((rd_T26 l0 x61_1).f3.f0))) (fun _ hk => hk.2) (.int .i64 ((rd_T26 l0 x61_1).f3.f1))) (fun _ hk => hk.2) (.int .i64 ((rd_T26 l0 x61_1).f4))) (fun _ hk => hk.2) (.bool ((rd_T26 l0 x61_1).f5))) (fun _ hk => ⟨hk.1.1, hk.1.2⟩)) hg hat); have n2_ := Aside0.mk (blk_grown (g := gb263) (o := .cells #[.int .i64 ((rd_T26 l0 x61_1).f0), .string ((rd_T26 l0 x61_1).f1), .int .i64 ((rd_T26 l0 x61_1).f2), .int .i64 ((rd_T26 l0 x61_1).f3.f0), .int .i64 ((rd_T26 l0 x61_1).f3.f1), .int .i64 ((rd_T26 l0 x61_1).f4), .bool ((rd_T26 l0 x61_1).f5)] 26 (0, 0)) (by (with_reducible repeat (first | refine blk_drewN ?_ _ | refine blk_drew ?_ | refine blk_alloc ?_ _)); refine blk_put (cs := #[.int .i64 ((rd_T26 l0 x61_1).f0), .string ((rd_T26 l0 x61_1).f1), .int .i64 ((rd_T26 l0 x61_1).f2), .int .i64 ((rd_T26 l0 x61_1).f3.f0), .int .i64 ((rd_T26 l0 x61_1).f3.f1), .int .i64 ((rd_T26 l0 x61_1).f4), .bool false]) ?_ 6 _ rfl; (with_reducible repeat (first | refine blk_drewN ?_ _ | refine blk_drew ?_ | refine blk_alloc ?_ _)); refine blk_put (cs := #[.int .i64 ((rd_T26 l0 x61_1).f0), .string ((rd_T26 l0 x61_1).f1), .int .i64 ((rd_T26 l0 x61_1).f2), .int .i64 ((rd_T26 l0 x61_1).f3.f0), .int .i64 ((rd_T26 l0 x61_1).f3.f1), .int .i64 0, .bool false]) ?_ 5 _ rfl; (with_reducible repeat (first | refine blk_drewN ?_ _ | refine blk_drew ?_ | refine blk_alloc ?_ _)); refine blk_put (cs := #[.int .i64 ((rd_T26 l0 x61_1).f0), .string ((rd_T26 l0 x61_1).f1), .int .i64 ((rd_T26 l0 x61_1).f2), .int .i64 ((rd_T26 l0 x61_1).f3.f0), .int .i64 0, .int .i64 0, .bool false]) ?_ 4 _ rfl; (with_reducible repeat (first | refine blk_drewN ?_ _ | refine blk_drew ?_ | refine blk_alloc ?_ _)); refine blk_put (cs := #[.int .i64 ((rd_T26 l0 x61_1).f0), .string ((rd_T26 l0 x61_1).f1), .int .i64 ((rd_T26 l0 x61_1).f2), .int .i64 0, .int .i64 0, .int .i64 0, .bool false]) ?_ 3 _ rfl; (with_reducible repeat (first | refine blk_drewN ?_ _ | refine blk_drew ?_ | refine blk_alloc ?_ _)); refine blk_put (cs := #[.int .i64 ((rd_T26 l0 x61_1).f0), .string ((rd_T26 l0 x61_1).f1), .int .i64 0, .int .i64 0, .int .i64 0, .int .i64 0, .bool false]) ?_ 2 _ rfl; (with_reducible repeat (first | refine blk_drewN ?_ _ | refine blk_drew ?_ | refine blk_alloc ?_ _)); refine blk_put (cs := #[.int .i64 ((rd_T26 l0 x61_1).f0), .string (⟨#[]⟩ : ByteArray), .int .i64 0, .int .i64 0, .int .i64 0, .int .i64 0, .bool false]) ?_ 1 _ rfl; (with_reducible repeat (first | refine blk_drewN ?_ _ | refine blk_drew ?_ | refine blk_alloc ?_ _)); refine blk_put (cs := #[.int .i64 0, .string (⟨#[]⟩ : ByteArray), .int .i64 0, .int .i64 0, .int .i64 0, .int .i64 0, .bool false]) ?_ 0 _ rfl; (with_reducible repeat (first | refine blk_drewN ?_ _ | refine blk_drew ?_ | refine blk_alloc ?_ _)); exact BK263.out) hg (Kd.R_ne HO_16.out BK263.out (by decide))); have n3_ := Aside0.mk (hb); have n4_ := Aside0.mk (ho); clear HO_12; clear HO_14; clear BK263; clear HB; clear HO_16; have HO_12 := n0_; have HO_14 := n1_; have BK263 := n2_; have HB := n3_; have HO266 := n4_; clear n0_ n1_ n2_ n3_ n4_; clear ho hb hg hat))
                            go_roundg k1
                            case measure => have := HK1.out; omega
                            case rel => exact ⟨(y264), (wrap64 (x61_1 + 1)), (by first | rfl | (simp; done) | (simp [*]; done)), H', ⟨by have := HK1.out; omega⟩, ⟨by (with_reducible repeat (first | apply Kd.R_alloc | apply Kd.R_drewN | apply Kd.R_drew)); exact HO_12.out⟩, ⟨by (with_reducible repeat (first | apply Kd.R_alloc | apply Kd.R_drewN | apply Kd.R_drew)); exact HO_14.out⟩, ⟨by (with_reducible repeat (first | apply Kd.R_alloc | apply Kd.R_drewN | apply Kd.R_drew)); exact HO266.out⟩, ⟨by repeat (first | (with_reducible first | exact HB.out | apply below_alloc | apply pw_below_drewN | apply below_drew1 | refine below_set ?_ GE263.out) | exact HB.out)⟩⟩
                          · rw [if_neg c25] at H
                            exact absurd H (by simp)
                        · rw [if_neg c24] at H
                          have c24b0 : decide (((rd_T26 l0 x61_1).f4) ≤ (ji23)) = false := decide_eq_false c24
                          clear c24
                          have H' := Aside0.mk H
                          clear H
                          have p262 : 0 ≤ (x61_1 : Int) := of_decide_eq_true (by first | (with_reducible assumption) | assumption)
                          have q262 : x61_1 < (l0.length : Int) := of_decide_eq_true (by first | (with_reducible assumption) | assumption)
                          obtain ⟨ad262, e262, hx262_0, hx262_1, hx262_2, hx262_3, hx262_4, hx262_5, hx262_6⟩ := at_T26 HR0.out x61_1 p262 q262
                          cases e262
                          replace hx262_0 := (HB.out.cell (World.block_lt_of_cell? w _ hx262_0)).trans hx262_0
                          replace hx262_1 := (HB.out.cell (World.block_lt_of_cell? w _ hx262_1)).trans hx262_1
                          replace hx262_2 := (HB.out.cell (World.block_lt_of_cell? w _ hx262_2)).trans hx262_2
                          replace hx262_3 := (HB.out.cell (World.block_lt_of_cell? w _ hx262_3)).trans hx262_3
                          replace hx262_4 := (HB.out.cell (World.block_lt_of_cell? w _ hx262_4)).trans hx262_4
                          replace hx262_5 := (HB.out.cell (World.block_lt_of_cell? w _ hx262_5)).trans hx262_5
                          replace hx262_6 := (HB.out.cell (World.block_lt_of_cell? w _ hx262_6)).trans hx262_6
                          replace p262 := eq_true p262
                          replace q262 := eq_true q262
                          go_wp2_with (first | ((with_reducible refine gate_dst (N := 18) rfl ?_); (try (refine gate_guard (by rfl) ?_; dsimp only)); refine box_event ?hg (N := 18) ?hd (cs := #[.int .i64 0, .string (⟨#[]⟩ : ByteArray), .int .i64 0, .int .i64 0, .int .i64 0, .int .i64 0, .bool false]) (t := 26) ?hr ?_; (case hd => rfl); (case hg => rfl); (case hr => first | (go_simp; done) | (go_simp; rfl)); intro gb263 hg w29 hbox hb; have n0_ := Aside0.mk (Kd.R_below (by (with_reducible repeat (first | apply Kd.R_alloc | apply Kd.R_drewN | apply Kd.R_drew)); exact HO_12.out) hb); have n1_ := Aside0.mk (Kd.R_below (by (with_reducible repeat (first | apply Kd.R_alloc | apply Kd.R_drewN | apply Kd.R_drew)); exact HO_14.out) hb); have n2_ := Aside0.mk (Kd.R_below (by (with_reducible repeat (first | apply Kd.R_alloc | apply Kd.R_drewN | apply Kd.R_drew)); exact HO_16.out) hb); have n3_ := Aside0.mk (below_step (by repeat (first | (with_reducible first | exact HB.out | apply below_alloc | apply pw_below_drewN | apply below_drew1) | exact HB.out)) hb); have n4_ := Aside0.mk (hbox); have n5_ := Aside0.mk ((by rw [hg]; exact (below_size (by repeat (first | (with_reducible first | exact HB.out | apply below_alloc | apply pw_below_drewN | apply below_drew1) | exact HB.out))) : w.heap.size ≤ gb263)); have n6_ := Aside0.mk ((by rw [hg]; exact (below_size (by repeat (first | (with_reducible first | exact HB.out | apply below_alloc | apply pw_below_drewN | apply below_drew1) | exact HB.out))) : w.heap.size ≤ gb263)); clear HO_12; clear HO_14; clear HO_16; clear HB; have HO_12 := n0_; have HO_14 := n1_; have HO_16 := n2_; have HB := n3_; have BK263 := n4_; have GW263 := n5_; have GE263 := n6_; clear n0_ n1_ n2_ n3_ n4_ n5_ n6_; clear hb hbox hg; have hcz30_0 : w29.cell? ⟨gb263, 0, none⟩ = some (.int .i64 0) := (blk_cell BK263.out 0).trans rfl; have hcz30_1 : w29.cell? ⟨gb263, 1, none⟩ = some (.string (⟨#[]⟩ : ByteArray)) := (blk_cell BK263.out 1).trans rfl; have hcz30_2 : w29.cell? ⟨gb263, 2, none⟩ = some (.int .i64 0) := (blk_cell BK263.out 2).trans rfl; have hcz30_3 : w29.cell? ⟨gb263, 3, none⟩ = some (.int .i64 0) := (blk_cell BK263.out 3).trans rfl; have hcz30_4 : w29.cell? ⟨gb263, 4, none⟩ = some (.int .i64 0) := (blk_cell BK263.out 4).trans rfl; have hcz30_5 : w29.cell? ⟨gb263, 5, none⟩ = some (.int .i64 0) := (blk_cell BK263.out 5).trans rfl; have hcz30_6 : w29.cell? ⟨gb263, 6, none⟩ = some (.bool false) := (blk_cell BK263.out 6).trans rfl; have hfz30_0 := blk_frozen BK263.out 0; have hfz30_1 := blk_frozen BK263.out 1; have hfz30_2 := blk_frozen BK263.out 2; have hfz30_3 := blk_frozen BK263.out 3; have hfz30_4 := blk_frozen BK263.out 4; have hfz30_5 := blk_frozen BK263.out 5; have hfz30_6 := blk_frozen BK263.out 6))
                          go_roundg k1
                          case measure => have := HK1.out; omega
                          case rel => exact ⟨(x16_1), (wrap64 (x61_1 + 1)), (by first | rfl | (simp; done) | (simp [*]; done)), H', ⟨by have := HK1.out; omega⟩, ⟨by (with_reducible repeat (first | apply Kd.R_alloc | apply Kd.R_drewN | apply Kd.R_drew)); exact Kd.R_mono (Kd.R_far (p := ⟨gb263, 6, none⟩) (Kd.R_far (p := ⟨gb263, 5, none⟩) (Kd.R_far (p := ⟨gb263, 4, none⟩) (Kd.R_far (p := ⟨gb263, 3, none⟩) (Kd.R_far (p := ⟨gb263, 2, none⟩) (Kd.R_far (p := ⟨gb263, 1, none⟩) (Kd.R_far (p := ⟨gb263, 0, none⟩) (Kd.R_types HO_12.out BK263.out (by decide)) (fun _ hk => hk.2) (.int .i64 ((rd_T26 l0 x61_1).f0))) (fun _ hk => hk.2) (.string ((rd_T26 l0 x61_1).f1))) (fun _ hk => hk.2) (.int .i64 ((rd_T26 l0 x61_1).f2))) (fun _ hk => hk.2) (.int .i64 ((rd_T26 l0 x61_1).f3.f0))) (fun _ hk => hk.2) (.int .i64 ((rd_T26 l0 x61_1).f3.f1))) (fun _ hk => hk.2) (.int .i64 ((rd_T26 l0 x61_1).f4))) (fun _ hk => hk.2) (.bool ((rd_T26 l0 x61_1).f5))) (fun _ hk => ⟨hk.1.1, hk.1.2⟩)⟩, ⟨by (with_reducible repeat (first | apply Kd.R_alloc | apply Kd.R_drewN | apply Kd.R_drew)); exact Kd.R_mono (Kd.R_far (p := ⟨gb263, 6, none⟩) (Kd.R_far (p := ⟨gb263, 5, none⟩) (Kd.R_far (p := ⟨gb263, 4, none⟩) (Kd.R_far (p := ⟨gb263, 3, none⟩) (Kd.R_far (p := ⟨gb263, 2, none⟩) (Kd.R_far (p := ⟨gb263, 1, none⟩) (Kd.R_far (p := ⟨gb263, 0, none⟩) (Kd.R_types HO_14.out BK263.out (by decide)) (fun _ hk => hk.2) (.int .i64 ((rd_T26 l0 x61_1).f0))) (fun _ hk => hk.2) (.string ((rd_T26 l0 x61_1).f1))) (fun _ hk => hk.2) (.int .i64 ((rd_T26 l0 x61_1).f2))) (fun _ hk => hk.2) (.int .i64 ((rd_T26 l0 x61_1).f3.f0))) (fun _ hk => hk.2) (.int .i64 ((rd_T26 l0 x61_1).f3.f1))) (fun _ hk => hk.2) (.int .i64 ((rd_T26 l0 x61_1).f4))) (fun _ hk => hk.2) (.bool ((rd_T26 l0 x61_1).f5))) (fun _ hk => ⟨hk.1.1, hk.1.2⟩)⟩, ⟨by (with_reducible repeat (first | apply Kd.R_alloc | apply Kd.R_drewN | apply Kd.R_drew)); exact Kd.R_mono (Kd.R_far (p := ⟨gb263, 6, none⟩) (Kd.R_far (p := ⟨gb263, 5, none⟩) (Kd.R_far (p := ⟨gb263, 4, none⟩) (Kd.R_far (p := ⟨gb263, 3, none⟩) (Kd.R_far (p := ⟨gb263, 2, none⟩) (Kd.R_far (p := ⟨gb263, 1, none⟩) (Kd.R_far (p := ⟨gb263, 0, none⟩) (Kd.R_types HO_16.out BK263.out (by decide)) (fun _ hk => hk.2) (.int .i64 ((rd_T26 l0 x61_1).f0))) (fun _ hk => hk.2) (.string ((rd_T26 l0 x61_1).f1))) (fun _ hk => hk.2) (.int .i64 ((rd_T26 l0 x61_1).f2))) (fun _ hk => hk.2) (.int .i64 ((rd_T26 l0 x61_1).f3.f0))) (fun _ hk => hk.2) (.int .i64 ((rd_T26 l0 x61_1).f3.f1))) (fun _ hk => hk.2) (.int .i64 ((rd_T26 l0 x61_1).f4))) (fun _ hk => hk.2) (.bool ((rd_T26 l0 x61_1).f5))) (fun _ hk => ⟨hk.1.1, hk.1.2⟩)⟩, ⟨by repeat (first | (with_reducible first | exact HB.out | apply below_alloc | apply pw_below_drewN | apply below_drew1 | refine below_set ?_ GE263.out) | exact HB.out)⟩⟩
                      · rw [if_neg c22] at H
                        have c22b0 : decide ((ji21) < ((rd_T26 l0 x61_1).f4)) = false := decide_eq_false c22
                        clear c22
                        have H' := Aside0.mk H
                        clear H
                        have p262 : 0 ≤ (x61_1 : Int) := of_decide_eq_true (by first | (with_reducible assumption) | assumption)
                        have q262 : x61_1 < (l0.length : Int) := of_decide_eq_true (by first | (with_reducible assumption) | assumption)
                        obtain ⟨ad262, e262, hx262_0, hx262_1, hx262_2, hx262_3, hx262_4, hx262_5, hx262_6⟩ := at_T26 HR0.out x61_1 p262 q262
                        cases e262
                        replace hx262_0 := (HB.out.cell (World.block_lt_of_cell? w _ hx262_0)).trans hx262_0
                        replace hx262_1 := (HB.out.cell (World.block_lt_of_cell? w _ hx262_1)).trans hx262_1
                        replace hx262_2 := (HB.out.cell (World.block_lt_of_cell? w _ hx262_2)).trans hx262_2
                        replace hx262_3 := (HB.out.cell (World.block_lt_of_cell? w _ hx262_3)).trans hx262_3
                        replace hx262_4 := (HB.out.cell (World.block_lt_of_cell? w _ hx262_4)).trans hx262_4
                        replace hx262_5 := (HB.out.cell (World.block_lt_of_cell? w _ hx262_5)).trans hx262_5
                        replace hx262_6 := (HB.out.cell (World.block_lt_of_cell? w _ hx262_6)).trans hx262_6
                        replace p262 := eq_true p262
                        replace q262 := eq_true q262
                        go_wp2_with (first | ((with_reducible refine gate_dst (N := 18) rfl ?_); (try (refine gate_guard (by rfl) ?_; dsimp only)); refine box_event ?hg (N := 18) ?hd (cs := #[.int .i64 0, .string (⟨#[]⟩ : ByteArray), .int .i64 0, .int .i64 0, .int .i64 0, .int .i64 0, .bool false]) (t := 26) ?hr ?_; (case hd => rfl); (case hg => rfl); (case hr => first | (go_simp; done) | (go_simp; rfl)); intro gb263 hg w31 hbox hb; have n0_ := Aside0.mk (Kd.R_below (by (with_reducible repeat (first | apply Kd.R_alloc | apply Kd.R_drewN | apply Kd.R_drew)); exact HO_12.out) hb); have n1_ := Aside0.mk (Kd.R_below (by (with_reducible repeat (first | apply Kd.R_alloc | apply Kd.R_drewN | apply Kd.R_drew)); exact HO_14.out) hb); have n2_ := Aside0.mk (Kd.R_below (by (with_reducible repeat (first | apply Kd.R_alloc | apply Kd.R_drewN | apply Kd.R_drew)); exact HO_16.out) hb); have n3_ := Aside0.mk (below_step (by repeat (first | (with_reducible first | exact HB.out | apply below_alloc | apply pw_below_drewN | apply below_drew1) | exact HB.out)) hb); have n4_ := Aside0.mk (hbox); have n5_ := Aside0.mk ((by rw [hg]; exact (below_size (by repeat (first | (with_reducible first | exact HB.out | apply below_alloc | apply pw_below_drewN | apply below_drew1) | exact HB.out))) : w.heap.size ≤ gb263)); have n6_ := Aside0.mk ((by rw [hg]; exact (below_size (by repeat (first | (with_reducible first | exact HB.out | apply below_alloc | apply pw_below_drewN | apply below_drew1) | exact HB.out))) : w.heap.size ≤ gb263)); clear HO_12; clear HO_14; clear HO_16; clear HB; have HO_12 := n0_; have HO_14 := n1_; have HO_16 := n2_; have HB := n3_; have BK263 := n4_; have GW263 := n5_; have GE263 := n6_; clear n0_ n1_ n2_ n3_ n4_ n5_ n6_; clear hb hbox hg; have hcz32_0 : w31.cell? ⟨gb263, 0, none⟩ = some (.int .i64 0) := (blk_cell BK263.out 0).trans rfl; have hcz32_1 : w31.cell? ⟨gb263, 1, none⟩ = some (.string (⟨#[]⟩ : ByteArray)) := (blk_cell BK263.out 1).trans rfl; have hcz32_2 : w31.cell? ⟨gb263, 2, none⟩ = some (.int .i64 0) := (blk_cell BK263.out 2).trans rfl; have hcz32_3 : w31.cell? ⟨gb263, 3, none⟩ = some (.int .i64 0) := (blk_cell BK263.out 3).trans rfl; have hcz32_4 : w31.cell? ⟨gb263, 4, none⟩ = some (.int .i64 0) := (blk_cell BK263.out 4).trans rfl; have hcz32_5 : w31.cell? ⟨gb263, 5, none⟩ = some (.int .i64 0) := (blk_cell BK263.out 5).trans rfl; have hcz32_6 : w31.cell? ⟨gb263, 6, none⟩ = some (.bool false) := (blk_cell BK263.out 6).trans rfl; have hfz32_0 := blk_frozen BK263.out 0; have hfz32_1 := blk_frozen BK263.out 1; have hfz32_2 := blk_frozen BK263.out 2; have hfz32_3 := blk_frozen BK263.out 3; have hfz32_4 := blk_frozen BK263.out 4; have hfz32_5 := blk_frozen BK263.out 5; have hfz32_6 := blk_frozen BK263.out 6))
                        go_roundg k1
                        case measure => have := HK1.out; omega
                        case rel => exact ⟨(x16_1), (wrap64 (x61_1 + 1)), (by first | rfl | (simp; done) | (simp [*]; done)), H', ⟨by have := HK1.out; omega⟩, ⟨by (with_reducible repeat (first | apply Kd.R_alloc | apply Kd.R_drewN | apply Kd.R_drew)); exact Kd.R_mono (Kd.R_far (p := ⟨gb263, 6, none⟩) (Kd.R_far (p := ⟨gb263, 5, none⟩) (Kd.R_far (p := ⟨gb263, 4, none⟩) (Kd.R_far (p := ⟨gb263, 3, none⟩) (Kd.R_far (p := ⟨gb263, 2, none⟩) (Kd.R_far (p := ⟨gb263, 1, none⟩) (Kd.R_far (p := ⟨gb263, 0, none⟩) (Kd.R_types HO_12.out BK263.out (by decide)) (fun _ hk => hk.2) (.int .i64 ((rd_T26 l0 x61_1).f0))) (fun _ hk => hk.2) (.string ((rd_T26 l0 x61_1).f1))) (fun _ hk => hk.2) (.int .i64 ((rd_T26 l0 x61_1).f2))) (fun _ hk => hk.2) (.int .i64 ((rd_T26 l0 x61_1).f3.f0))) (fun _ hk => hk.2) (.int .i64 ((rd_T26 l0 x61_1).f3.f1))) (fun _ hk => hk.2) (.int .i64 ((rd_T26 l0 x61_1).f4))) (fun _ hk => hk.2) (.bool ((rd_T26 l0 x61_1).f5))) (fun _ hk => ⟨hk.1.1, hk.1.2⟩)⟩, ⟨by (with_reducible repeat (first | apply Kd.R_alloc | apply Kd.R_drewN | apply Kd.R_drew)); exact Kd.R_mono (Kd.R_far (p := ⟨gb263, 6, none⟩) (Kd.R_far (p := ⟨gb263, 5, none⟩) (Kd.R_far (p := ⟨gb263, 4, none⟩) (Kd.R_far (p := ⟨gb263, 3, none⟩) (Kd.R_far (p := ⟨gb263, 2, none⟩) (Kd.R_far (p := ⟨gb263, 1, none⟩) (Kd.R_far (p := ⟨gb263, 0, none⟩) (Kd.R_types HO_14.out BK263.out (by decide)) (fun _ hk => hk.2) (.int .i64 ((rd_T26 l0 x61_1).f0))) (fun _ hk => hk.2) (.string ((rd_T26 l0 x61_1).f1))) (fun _ hk => hk.2) (.int .i64 ((rd_T26 l0 x61_1).f2))) (fun _ hk => hk.2) (.int .i64 ((rd_T26 l0 x61_1).f3.f0))) (fun _ hk => hk.2) (.int .i64 ((rd_T26 l0 x61_1).f3.f1))) (fun _ hk => hk.2) (.int .i64 ((rd_T26 l0 x61_1).f4))) (fun _ hk => hk.2) (.bool ((rd_T26 l0 x61_1).f5))) (fun _ hk => ⟨hk.1.1, hk.1.2⟩)⟩, ⟨by (with_reducible repeat (first | apply Kd.R_alloc | apply Kd.R_drewN | apply Kd.R_drew)); exact Kd.R_mono (Kd.R_far (p := ⟨gb263, 6, none⟩) (Kd.R_far (p := ⟨gb263, 5, none⟩) (Kd.R_far (p := ⟨gb263, 4, none⟩) (Kd.R_far (p := ⟨gb263, 3, none⟩) (Kd.R_far (p := ⟨gb263, 2, none⟩) (Kd.R_far (p := ⟨gb263, 1, none⟩) (Kd.R_far (p := ⟨gb263, 0, none⟩) (Kd.R_types HO_16.out BK263.out (by decide)) (fun _ hk => hk.2) (.int .i64 ((rd_T26 l0 x61_1).f0))) (fun _ hk => hk.2) (.string ((rd_T26 l0 x61_1).f1))) (fun _ hk => hk.2) (.int .i64 ((rd_T26 l0 x61_1).f2))) (fun _ hk => hk.2) (.int .i64 ((rd_T26 l0 x61_1).f3.f0))) (fun _ hk => hk.2) (.int .i64 ((rd_T26 l0 x61_1).f3.f1))) (fun _ hk => hk.2) (.int .i64 ((rd_T26 l0 x61_1).f4))) (fun _ hk => hk.2) (.bool ((rd_T26 l0 x61_1).f5))) (fun _ hk => ⟨hk.1.1, hk.1.2⟩)⟩, ⟨by repeat (first | (with_reducible first | exact HB.out | apply below_alloc | apply pw_below_drewN | apply below_drew1 | refine below_set ?_ GE263.out) | exact HB.out)⟩⟩
                    · rw [if_neg c20] at H
                      have c20b0 : (((rd_T26 l0 x61_1).f1).toList == a2.toList) = false := beq_eq_false_iff_ne.mpr c20
                      have c20b1 : (((rd_T26 l0 x61_1).f1).toList != a2.toList) = true := bne_iff_ne.mpr c20
                      have H' := Aside0.mk H
                      clear H
                      have p262 : 0 ≤ (x61_1 : Int) := of_decide_eq_true (by first | (with_reducible assumption) | assumption)
                      have q262 : x61_1 < (l0.length : Int) := of_decide_eq_true (by first | (with_reducible assumption) | assumption)
                      obtain ⟨ad262, e262, hx262_0, hx262_1, hx262_2, hx262_3, hx262_4, hx262_5, hx262_6⟩ := at_T26 HR0.out x61_1 p262 q262
                      cases e262
                      replace hx262_0 := (HB.out.cell (World.block_lt_of_cell? w _ hx262_0)).trans hx262_0
                      replace hx262_1 := (HB.out.cell (World.block_lt_of_cell? w _ hx262_1)).trans hx262_1
                      replace hx262_2 := (HB.out.cell (World.block_lt_of_cell? w _ hx262_2)).trans hx262_2
                      replace hx262_3 := (HB.out.cell (World.block_lt_of_cell? w _ hx262_3)).trans hx262_3
                      replace hx262_4 := (HB.out.cell (World.block_lt_of_cell? w _ hx262_4)).trans hx262_4
                      replace hx262_5 := (HB.out.cell (World.block_lt_of_cell? w _ hx262_5)).trans hx262_5
                      replace hx262_6 := (HB.out.cell (World.block_lt_of_cell? w _ hx262_6)).trans hx262_6
                      replace p262 := eq_true p262
                      replace q262 := eq_true q262
                      go_wp2_with (first | ((with_reducible refine gate_dst (N := 18) rfl ?_); (try (refine gate_guard (by rfl) ?_; dsimp only)); refine box_event ?hg (N := 18) ?hd (cs := #[.int .i64 0, .string (⟨#[]⟩ : ByteArray), .int .i64 0, .int .i64 0, .int .i64 0, .int .i64 0, .bool false]) (t := 26) ?hr ?_; (case hd => rfl); (case hg => rfl); (case hr => first | (go_simp; done) | (go_simp; rfl)); intro gb263 hg w33 hbox hb; have n0_ := Aside0.mk (Kd.R_below (by (with_reducible repeat (first | apply Kd.R_alloc | apply Kd.R_drewN | apply Kd.R_drew)); exact HO_12.out) hb); have n1_ := Aside0.mk (Kd.R_below (by (with_reducible repeat (first | apply Kd.R_alloc | apply Kd.R_drewN | apply Kd.R_drew)); exact HO_14.out) hb); have n2_ := Aside0.mk (Kd.R_below (by (with_reducible repeat (first | apply Kd.R_alloc | apply Kd.R_drewN | apply Kd.R_drew)); exact HO_16.out) hb); have n3_ := Aside0.mk (below_step (by repeat (first | (with_reducible first | exact HB.out | apply below_alloc | apply pw_below_drewN | apply below_drew1) | exact HB.out)) hb); have n4_ := Aside0.mk (hbox); have n5_ := Aside0.mk ((by rw [hg]; exact (below_size (by repeat (first | (with_reducible first | exact HB.out | apply below_alloc | apply pw_below_drewN | apply below_drew1) | exact HB.out))) : w.heap.size ≤ gb263)); have n6_ := Aside0.mk ((by rw [hg]; exact (below_size (by repeat (first | (with_reducible first | exact HB.out | apply below_alloc | apply pw_below_drewN | apply below_drew1) | exact HB.out))) : w.heap.size ≤ gb263)); clear HO_12; clear HO_14; clear HO_16; clear HB; have HO_12 := n0_; have HO_14 := n1_; have HO_16 := n2_; have HB := n3_; have BK263 := n4_; have GW263 := n5_; have GE263 := n6_; clear n0_ n1_ n2_ n3_ n4_ n5_ n6_; clear hb hbox hg; have hcz34_0 : w33.cell? ⟨gb263, 0, none⟩ = some (.int .i64 0) := (blk_cell BK263.out 0).trans rfl; have hcz34_1 : w33.cell? ⟨gb263, 1, none⟩ = some (.string (⟨#[]⟩ : ByteArray)) := (blk_cell BK263.out 1).trans rfl; have hcz34_2 : w33.cell? ⟨gb263, 2, none⟩ = some (.int .i64 0) := (blk_cell BK263.out 2).trans rfl; have hcz34_3 : w33.cell? ⟨gb263, 3, none⟩ = some (.int .i64 0) := (blk_cell BK263.out 3).trans rfl; have hcz34_4 : w33.cell? ⟨gb263, 4, none⟩ = some (.int .i64 0) := (blk_cell BK263.out 4).trans rfl; have hcz34_5 : w33.cell? ⟨gb263, 5, none⟩ = some (.int .i64 0) := (blk_cell BK263.out 5).trans rfl; have hcz34_6 : w33.cell? ⟨gb263, 6, none⟩ = some (.bool false) := (blk_cell BK263.out 6).trans rfl; have hfz34_0 := blk_frozen BK263.out 0; have hfz34_1 := blk_frozen BK263.out 1; have hfz34_2 := blk_frozen BK263.out 2; have hfz34_3 := blk_frozen BK263.out 3; have hfz34_4 := blk_frozen BK263.out 4; have hfz34_5 := blk_frozen BK263.out 5; have hfz34_6 := blk_frozen BK263.out 6))
                      go_roundg k1
                      case measure => have := HK1.out; omega
                      case rel => exact ⟨(x16_1), (wrap64 (x61_1 + 1)), (by first | rfl | (simp; done) | (simp [*]; done)), H', ⟨by have := HK1.out; omega⟩, ⟨by (with_reducible repeat (first | apply Kd.R_alloc | apply Kd.R_drewN | apply Kd.R_drew)); exact Kd.R_mono (Kd.R_far (p := ⟨gb263, 6, none⟩) (Kd.R_far (p := ⟨gb263, 5, none⟩) (Kd.R_far (p := ⟨gb263, 4, none⟩) (Kd.R_far (p := ⟨gb263, 3, none⟩) (Kd.R_far (p := ⟨gb263, 2, none⟩) (Kd.R_far (p := ⟨gb263, 1, none⟩) (Kd.R_far (p := ⟨gb263, 0, none⟩) (Kd.R_types HO_12.out BK263.out (by decide)) (fun _ hk => hk.2) (.int .i64 ((rd_T26 l0 x61_1).f0))) (fun _ hk => hk.2) (.string ((rd_T26 l0 x61_1).f1))) (fun _ hk => hk.2) (.int .i64 ((rd_T26 l0 x61_1).f2))) (fun _ hk => hk.2) (.int .i64 ((rd_T26 l0 x61_1).f3.f0))) (fun _ hk => hk.2) (.int .i64 ((rd_T26 l0 x61_1).f3.f1))) (fun _ hk => hk.2) (.int .i64 ((rd_T26 l0 x61_1).f4))) (fun _ hk => hk.2) (.bool ((rd_T26 l0 x61_1).f5))) (fun _ hk => ⟨hk.1.1, hk.1.2⟩)⟩, ⟨by (with_reducible repeat (first | apply Kd.R_alloc | apply Kd.R_drewN | apply Kd.R_drew)); exact Kd.R_mono (Kd.R_far (p := ⟨gb263, 6, none⟩) (Kd.R_far (p := ⟨gb263, 5, none⟩) (Kd.R_far (p := ⟨gb263, 4, none⟩) (Kd.R_far (p := ⟨gb263, 3, none⟩) (Kd.R_far (p := ⟨gb263, 2, none⟩) (Kd.R_far (p := ⟨gb263, 1, none⟩) (Kd.R_far (p := ⟨gb263, 0, none⟩) (Kd.R_types HO_14.out BK263.out (by decide)) (fun _ hk => hk.2) (.int .i64 ((rd_T26 l0 x61_1).f0))) (fun _ hk => hk.2) (.string ((rd_T26 l0 x61_1).f1))) (fun _ hk => hk.2) (.int .i64 ((rd_T26 l0 x61_1).f2))) (fun _ hk => hk.2) (.int .i64 ((rd_T26 l0 x61_1).f3.f0))) (fun _ hk => hk.2) (.int .i64 ((rd_T26 l0 x61_1).f3.f1))) (fun _ hk => hk.2) (.int .i64 ((rd_T26 l0 x61_1).f4))) (fun _ hk => hk.2) (.bool ((rd_T26 l0 x61_1).f5))) (fun _ hk => ⟨hk.1.1, hk.1.2⟩)⟩, ⟨by (with_reducible repeat (first | apply Kd.R_alloc | apply Kd.R_drewN | apply Kd.R_drew)); exact Kd.R_mono (Kd.R_far (p := ⟨gb263, 6, none⟩) (Kd.R_far (p := ⟨gb263, 5, none⟩) (Kd.R_far (p := ⟨gb263, 4, none⟩) (Kd.R_far (p := ⟨gb263, 3, none⟩) (Kd.R_far (p := ⟨gb263, 2, none⟩) (Kd.R_far (p := ⟨gb263, 1, none⟩) (Kd.R_far (p := ⟨gb263, 0, none⟩) (Kd.R_types HO_16.out BK263.out (by decide)) (fun _ hk => hk.2) (.int .i64 ((rd_T26 l0 x61_1).f0))) (fun _ hk => hk.2) (.string ((rd_T26 l0 x61_1).f1))) (fun _ hk => hk.2) (.int .i64 ((rd_T26 l0 x61_1).f2))) (fun _ hk => hk.2) (.int .i64 ((rd_T26 l0 x61_1).f3.f0))) (fun _ hk => hk.2) (.int .i64 ((rd_T26 l0 x61_1).f3.f1))) (fun _ hk => hk.2) (.int .i64 ((rd_T26 l0 x61_1).f4))) (fun _ hk => hk.2) (.bool ((rd_T26 l0 x61_1).f5))) (fun _ hk => ⟨hk.1.1, hk.1.2⟩)⟩, ⟨by repeat (first | (with_reducible first | exact HB.out | apply below_alloc | apply pw_below_drewN | apply below_drew1 | refine below_set ?_ GE263.out) | exact HB.out)⟩⟩
                  · rw [if_neg c19] at H
                    have c19b0 : (((rd_T26 l0 x61_1).f0) == a1) = false := beq_eq_false_iff_ne.mpr c19
                    have c19b1 : (((rd_T26 l0 x61_1).f0) != a1) = true := bne_iff_ne.mpr c19
                    have H' := Aside0.mk H
                    clear H
                    have p262 : 0 ≤ (x61_1 : Int) := of_decide_eq_true (by first | (with_reducible assumption) | assumption)
                    have q262 : x61_1 < (l0.length : Int) := of_decide_eq_true (by first | (with_reducible assumption) | assumption)
                    obtain ⟨ad262, e262, hx262_0, hx262_1, hx262_2, hx262_3, hx262_4, hx262_5, hx262_6⟩ := at_T26 HR0.out x61_1 p262 q262
                    cases e262
                    replace hx262_0 := (HB.out.cell (World.block_lt_of_cell? w _ hx262_0)).trans hx262_0
                    replace hx262_1 := (HB.out.cell (World.block_lt_of_cell? w _ hx262_1)).trans hx262_1
                    replace hx262_2 := (HB.out.cell (World.block_lt_of_cell? w _ hx262_2)).trans hx262_2
                    replace hx262_3 := (HB.out.cell (World.block_lt_of_cell? w _ hx262_3)).trans hx262_3
                    replace hx262_4 := (HB.out.cell (World.block_lt_of_cell? w _ hx262_4)).trans hx262_4
                    replace hx262_5 := (HB.out.cell (World.block_lt_of_cell? w _ hx262_5)).trans hx262_5
                    replace hx262_6 := (HB.out.cell (World.block_lt_of_cell? w _ hx262_6)).trans hx262_6
                    replace p262 := eq_true p262
                    replace q262 := eq_true q262
                    go_wp2_with (first | ((with_reducible refine gate_dst (N := 18) rfl ?_); (try (refine gate_guard (by rfl) ?_; dsimp only)); refine box_event ?hg (N := 18) ?hd (cs := #[.int .i64 0, .string (⟨#[]⟩ : ByteArray), .int .i64 0, .int .i64 0, .int .i64 0, .int .i64 0, .bool false]) (t := 26) ?hr ?_; (case hd => rfl); (case hg => rfl); (case hr => first | (go_simp; done) | (go_simp; rfl)); intro gb263 hg w35 hbox hb; have n0_ := Aside0.mk (Kd.R_below (by (with_reducible repeat (first | apply Kd.R_alloc | apply Kd.R_drewN | apply Kd.R_drew)); exact HO_12.out) hb); have n1_ := Aside0.mk (Kd.R_below (by (with_reducible repeat (first | apply Kd.R_alloc | apply Kd.R_drewN | apply Kd.R_drew)); exact HO_14.out) hb); have n2_ := Aside0.mk (Kd.R_below (by (with_reducible repeat (first | apply Kd.R_alloc | apply Kd.R_drewN | apply Kd.R_drew)); exact HO_16.out) hb); have n3_ := Aside0.mk (below_step (by repeat (first | (with_reducible first | exact HB.out | apply below_alloc | apply pw_below_drewN | apply below_drew1) | exact HB.out)) hb); have n4_ := Aside0.mk (hbox); have n5_ := Aside0.mk ((by rw [hg]; exact (below_size (by repeat (first | (with_reducible first | exact HB.out | apply below_alloc | apply pw_below_drewN | apply below_drew1) | exact HB.out))) : w.heap.size ≤ gb263)); have n6_ := Aside0.mk ((by rw [hg]; exact (below_size (by repeat (first | (with_reducible first | exact HB.out | apply below_alloc | apply pw_below_drewN | apply below_drew1) | exact HB.out))) : w.heap.size ≤ gb263)); clear HO_12; clear HO_14; clear HO_16; clear HB; have HO_12 := n0_; have HO_14 := n1_; have HO_16 := n2_; have HB := n3_; have BK263 := n4_; have GW263 := n5_; have GE263 := n6_; clear n0_ n1_ n2_ n3_ n4_ n5_ n6_; clear hb hbox hg; have hcz36_0 : w35.cell? ⟨gb263, 0, none⟩ = some (.int .i64 0) := (blk_cell BK263.out 0).trans rfl; have hcz36_1 : w35.cell? ⟨gb263, 1, none⟩ = some (.string (⟨#[]⟩ : ByteArray)) := (blk_cell BK263.out 1).trans rfl; have hcz36_2 : w35.cell? ⟨gb263, 2, none⟩ = some (.int .i64 0) := (blk_cell BK263.out 2).trans rfl; have hcz36_3 : w35.cell? ⟨gb263, 3, none⟩ = some (.int .i64 0) := (blk_cell BK263.out 3).trans rfl; have hcz36_4 : w35.cell? ⟨gb263, 4, none⟩ = some (.int .i64 0) := (blk_cell BK263.out 4).trans rfl; have hcz36_5 : w35.cell? ⟨gb263, 5, none⟩ = some (.int .i64 0) := (blk_cell BK263.out 5).trans rfl; have hcz36_6 : w35.cell? ⟨gb263, 6, none⟩ = some (.bool false) := (blk_cell BK263.out 6).trans rfl; have hfz36_0 := blk_frozen BK263.out 0; have hfz36_1 := blk_frozen BK263.out 1; have hfz36_2 := blk_frozen BK263.out 2; have hfz36_3 := blk_frozen BK263.out 3; have hfz36_4 := blk_frozen BK263.out 4; have hfz36_5 := blk_frozen BK263.out 5; have hfz36_6 := blk_frozen BK263.out 6))
                    go_roundg k1
                    case measure => have := HK1.out; omega
                    case rel => exact ⟨(x16_1), (wrap64 (x61_1 + 1)), (by first | rfl | (simp; done) | (simp [*]; done)), H', ⟨by have := HK1.out; omega⟩, ⟨by (with_reducible repeat (first | apply Kd.R_alloc | apply Kd.R_drewN | apply Kd.R_drew)); exact Kd.R_mono (Kd.R_far (p := ⟨gb263, 6, none⟩) (Kd.R_far (p := ⟨gb263, 5, none⟩) (Kd.R_far (p := ⟨gb263, 4, none⟩) (Kd.R_far (p := ⟨gb263, 3, none⟩) (Kd.R_far (p := ⟨gb263, 2, none⟩) (Kd.R_far (p := ⟨gb263, 1, none⟩) (Kd.R_far (p := ⟨gb263, 0, none⟩) (Kd.R_types HO_12.out BK263.out (by decide)) (fun _ hk => hk.2) (.int .i64 ((rd_T26 l0 x61_1).f0))) (fun _ hk => hk.2) (.string ((rd_T26 l0 x61_1).f1))) (fun _ hk => hk.2) (.int .i64 ((rd_T26 l0 x61_1).f2))) (fun _ hk => hk.2) (.int .i64 ((rd_T26 l0 x61_1).f3.f0))) (fun _ hk => hk.2) (.int .i64 ((rd_T26 l0 x61_1).f3.f1))) (fun _ hk => hk.2) (.int .i64 ((rd_T26 l0 x61_1).f4))) (fun _ hk => hk.2) (.bool ((rd_T26 l0 x61_1).f5))) (fun _ hk => ⟨hk.1.1, hk.1.2⟩)⟩, ⟨by (with_reducible repeat (first | apply Kd.R_alloc | apply Kd.R_drewN | apply Kd.R_drew)); exact Kd.R_mono (Kd.R_far (p := ⟨gb263, 6, none⟩) (Kd.R_far (p := ⟨gb263, 5, none⟩) (Kd.R_far (p := ⟨gb263, 4, none⟩) (Kd.R_far (p := ⟨gb263, 3, none⟩) (Kd.R_far (p := ⟨gb263, 2, none⟩) (Kd.R_far (p := ⟨gb263, 1, none⟩) (Kd.R_far (p := ⟨gb263, 0, none⟩) (Kd.R_types HO_14.out BK263.out (by decide)) (fun _ hk => hk.2) (.int .i64 ((rd_T26 l0 x61_1).f0))) (fun _ hk => hk.2) (.string ((rd_T26 l0 x61_1).f1))) (fun _ hk => hk.2) (.int .i64 ((rd_T26 l0 x61_1).f2))) (fun _ hk => hk.2) (.int .i64 ((rd_T26 l0 x61_1).f3.f0))) (fun _ hk => hk.2) (.int .i64 ((rd_T26 l0 x61_1).f3.f1))) (fun _ hk => hk.2) (.int .i64 ((rd_T26 l0 x61_1).f4))) (fun _ hk => hk.2) (.bool ((rd_T26 l0 x61_1).f5))) (fun _ hk => ⟨hk.1.1, hk.1.2⟩)⟩, ⟨by (with_reducible repeat (first | apply Kd.R_alloc | apply Kd.R_drewN | apply Kd.R_drew)); exact Kd.R_mono (Kd.R_far (p := ⟨gb263, 6, none⟩) (Kd.R_far (p := ⟨gb263, 5, none⟩) (Kd.R_far (p := ⟨gb263, 4, none⟩) (Kd.R_far (p := ⟨gb263, 3, none⟩) (Kd.R_far (p := ⟨gb263, 2, none⟩) (Kd.R_far (p := ⟨gb263, 1, none⟩) (Kd.R_far (p := ⟨gb263, 0, none⟩) (Kd.R_types HO_16.out BK263.out (by decide)) (fun _ hk => hk.2) (.int .i64 ((rd_T26 l0 x61_1).f0))) (fun _ hk => hk.2) (.string ((rd_T26 l0 x61_1).f1))) (fun _ hk => hk.2) (.int .i64 ((rd_T26 l0 x61_1).f2))) (fun _ hk => hk.2) (.int .i64 ((rd_T26 l0 x61_1).f3.f0))) (fun _ hk => hk.2) (.int .i64 ((rd_T26 l0 x61_1).f3.f1))) (fun _ hk => hk.2) (.int .i64 ((rd_T26 l0 x61_1).f4))) (fun _ hk => hk.2) (.bool ((rd_T26 l0 x61_1).f5))) (fun _ hk => ⟨hk.1.1, hk.1.2⟩)⟩, ⟨by repeat (first | (with_reducible first | exact HB.out | apply below_alloc | apply pw_below_drewN | apply below_drew1 | refine below_set ?_ GE263.out) | exact HB.out)⟩⟩
                · rw [if_neg c18] at H
                  exact absurd H (by simp)
              · rw [if_neg c17] at H
                exact absurd H (by simp)
            · rw [if_neg c16] at H
              have c16b0 : decide (x61_1 < (l0.length : Int)) = false := decide_eq_false c16
              clear c16
              replace H := Option.bind_eq_some_iff.mp H
              obtain ⟨⟨t267, t268⟩, A370, H⟩ := H
              replace H : ((span_Without.f k1 t254 t267).bind fun bt271 => (if true = true then (if t259 = 0 then (if t268 = 0 then (if bt271.2 = 0 then ((cohousingref04_Same.f k1 t254 t258).bind fun t275 => (if t275 = true then (if (bt271.1.length : Int) = 0 then (some true) else (none)) else (none))) else (none)) else (none)) else (none)) else (none))) = some r := H
              have A37 := Aside0.mk A370
              clear A370
              replace H := Option.bind_eq_some_iff.mp H
              obtain ⟨⟨t271, t272⟩, A380, H⟩ := H
              replace H : (if true = true then (if t259 = 0 then (if t268 = 0 then (if t272 = 0 then ((cohousingref04_Same.f k1 t254 t258).bind fun t275 => (if t275 = true then (if (t271.length : Int) = 0 then (some true) else (none)) else (none))) else (none)) else (none)) else (none)) else (none)) = some r := H
              have A38 := Aside0.mk A380
              clear A380
              replace H : (if t259 = 0 then (if t268 = 0 then (if t272 = 0 then ((cohousingref04_Same.f k1 t254 t258).bind fun t275 => (if t275 = true then (if (t271.length : Int) = 0 then (some true) else (none)) else (none))) else (none)) else (none)) else (none)) = some r := by first | (rw [if_pos rfl] at H; exact H) | (rw [if_pos trivial] at H; exact H)
              by_cases c39 : t259 = 0
              · rw [if_pos c39] at H
                have c39b0 : (t259 == 0) = true := beq_iff_eq.mpr c39
                have c39b1 : (t259 != 0) = false := bne_eq_false_iff_eq.mpr c39
                clear c39
                by_cases c40 : t268 = 0
                · rw [if_pos c40] at H
                  have c40b0 : (t268 == 0) = true := beq_iff_eq.mpr c40
                  have c40b1 : (t268 != 0) = false := bne_eq_false_iff_eq.mpr c40
                  clear c40
                  by_cases c41 : t272 = 0
                  · rw [if_pos c41] at H
                    have c41b0 : (t272 == 0) = true := beq_iff_eq.mpr c41
                    have c41b1 : (t272 != 0) = false := bne_eq_false_iff_eq.mpr c41
                    clear c41
                    replace H := Option.bind_eq_some_iff.mp H
                    obtain ⟨t275, A420, H⟩ := H
                    replace H : (if t275 = true then (if (t271.length : Int) = 0 then (some true) else (none)) else (none)) = some r := H
                    have A42 := Aside0.mk A420
                    clear A420
                    by_cases c43 : t275 = true
                    · subst c43
                      have H1 : (if (t271.length : Int) = 0 then (some true) else (none)) = some r := by rw [if_pos rfl] at H; exact H
                      clear H
                      have H := H1
                      clear H1
                      by_cases c44 : (t271.length : Int) = 0
                      · rw [if_pos c44] at H
                        have c44b0 : ((t271.length : Int) == 0) = true := beq_iff_eq.mpr c44
                        have c44b1 : ((t271.length : Int) != 0) = false := bne_eq_false_iff_eq.mpr c44
                        clear c44
                        obtain rfl := Option.some.inj H
                        obtain ⟨Ao45, co45, eo45⟩ := Kd.R_slice HO_16.out
                        subst eo45
                        go_wp2_with (first | ((with_reducible refine gate_callee (f := 27) rfl ?_); refine goesL_ (some 99) rfl rfl Tryz.func27 (by kernel_rfl) rfl #[.slice Ao45 x16_1.length co45] rfl (by (try simp only [List.map_toArray, List.map_cons, List.map_nil]); first | done | rfl | (simp only [List.length_drop, List.length_take]; rfl)) ?_; (with_reducible refine (span_Normal.calls _ _ x16_1 t267 t268 _ ?side1 ?side2 A37.out).mono ?_); (case side1 => repeat (first | exact (Kd.R_reads' HO_16.out).2.2 | (with_reducible refine Kd.C_alloc ?_ _) | (with_reducible refine Kd.C_drewN ?_ _) | (with_reducible refine Kd.C_drew ?_))); (case side2 => exact (Kd.R_reads' HO_16.out).2.1); rintro e w46 ⟨v269, rfl, ho0, hb⟩; refine ⟨_, rfl, ?_⟩; have n0_ := Aside0.mk (Kd.R_elder' (by (with_reducible repeat (first | apply Kd.R_alloc | apply Kd.R_drewN | apply Kd.R_drew)); exact HO_12.out) (Kd.R_base ho0) hb); have n1_ := Aside0.mk (Kd.R_elder' (by (with_reducible repeat (first | apply Kd.R_alloc | apply Kd.R_drewN | apply Kd.R_drew)); exact HO_14.out) (Kd.R_base ho0) hb); have n2_ := Aside0.mk (Kd.R_elder' (by (with_reducible repeat (first | apply Kd.R_alloc | apply Kd.R_drewN | apply Kd.R_drew)); exact HO_16.out) (Kd.R_base ho0) hb); have n3_ := Aside0.mk (Kd.R_lower (Kd.R_new' (Kd.R_new' (Kd.R_new' ho0 (Kd.R_lt (by (with_reducible repeat (first | apply Kd.R_alloc | apply Kd.R_drewN | apply Kd.R_drew)); exact HO_12.out))) (Kd.R_lt (by (with_reducible repeat (first | apply Kd.R_alloc | apply Kd.R_drewN | apply Kd.R_drew)); exact HO_14.out))) (Kd.R_lt (by (with_reducible repeat (first | apply Kd.R_alloc | apply Kd.R_drewN | apply Kd.R_drew)); exact HO_16.out))) (below_size (by repeat (first | (with_reducible first | exact HB.out | apply below_alloc | apply pw_below_drewN | apply below_drew1) | exact HB.out)))); have n4_ := Aside0.mk (below_step (by repeat (first | (with_reducible first | exact HB.out | apply below_alloc | apply pw_below_drewN | apply below_drew1) | exact HB.out)) hb); clear HO_12; clear HO_14; clear HO_16; clear HB; have HO_12 := n0_; have HO_14 := n1_; have HO_16 := n2_; have HO270 := n3_; have HB := n4_; clear n0_ n1_ n2_ n3_ n4_; (try clear hb); (try clear hb2); (try clear hk); (try clear hi); (try clear ho0); obtain ⟨Ao47, co47, eo47⟩ := Kd.R_slice HO_12.out; subst eo47; obtain ⟨Ao48, co48, eo48⟩ := Kd.R_slice HO270.out; subst eo48) | ((with_reducible refine gate_callee (f := 28) rfl ?_); refine goesL_ (some 105) rfl rfl Tryz.func28 (by kernel_rfl) rfl #[.slice Ao47 t254.length co47, .slice Ao48 t267.length co48] rfl (by (try simp only [List.map_toArray, List.map_cons, List.map_nil]); first | done | rfl | (simp only [List.length_drop, List.length_take]; rfl)) ?_; (with_reducible refine (span_Without.calls k1 _ _ t254 _ _ t267 t271 t272 _ ?side1 ?side2 ?side3 ?side4 A38.out).mono ?_); (case side1 => repeat (first | exact (Kd.R_reads' HO_12.out).2.2 | (with_reducible refine Kd.C_alloc ?_ _) | (with_reducible refine Kd.C_drewN ?_ _) | (with_reducible refine Kd.C_drew ?_))); (case side2 => exact (Kd.R_reads' HO_12.out).2.1); (case side3 => repeat (first | exact (Kd.R_reads' HO270.out).2.2 | (with_reducible refine Kd.C_alloc ?_ _) | (with_reducible refine Kd.C_drewN ?_ _) | (with_reducible refine Kd.C_drew ?_))); (case side4 => exact (Kd.R_reads' HO270.out).2.1); rintro e w49 ⟨v273, rfl, ho0, hb⟩; refine ⟨_, rfl, ?_⟩; have n0_ := Aside0.mk (Kd.R_elder' (by (with_reducible repeat (first | apply Kd.R_alloc | apply Kd.R_drewN | apply Kd.R_drew)); exact HO_12.out) (Kd.R_base ho0) hb); have n1_ := Aside0.mk (Kd.R_elder' (by (with_reducible repeat (first | apply Kd.R_alloc | apply Kd.R_drewN | apply Kd.R_drew)); exact HO_14.out) (Kd.R_base ho0) hb); have n2_ := Aside0.mk (Kd.R_elder' (by (with_reducible repeat (first | apply Kd.R_alloc | apply Kd.R_drewN | apply Kd.R_drew)); exact HO_16.out) (Kd.R_base ho0) hb); have n3_ := Aside0.mk (Kd.R_elder' (by (with_reducible repeat (first | apply Kd.R_alloc | apply Kd.R_drewN | apply Kd.R_drew)); exact HO270.out) (Kd.R_base ho0) hb); have n4_ := Aside0.mk (Kd.R_lower (Kd.R_new' (Kd.R_new' (Kd.R_new' (Kd.R_new' ho0 (Kd.R_lt (by (with_reducible repeat (first | apply Kd.R_alloc | apply Kd.R_drewN | apply Kd.R_drew)); exact HO_12.out))) (Kd.R_lt (by (with_reducible repeat (first | apply Kd.R_alloc | apply Kd.R_drewN | apply Kd.R_drew)); exact HO_14.out))) (Kd.R_lt (by (with_reducible repeat (first | apply Kd.R_alloc | apply Kd.R_drewN | apply Kd.R_drew)); exact HO_16.out))) (Kd.R_lt (by (with_reducible repeat (first | apply Kd.R_alloc | apply Kd.R_drewN | apply Kd.R_drew)); exact HO270.out))) (below_size (by repeat (first | (with_reducible first | exact HB.out | apply below_alloc | apply pw_below_drewN | apply below_drew1) | exact HB.out)))); have n5_ := Aside0.mk (below_step (by repeat (first | (with_reducible first | exact HB.out | apply below_alloc | apply pw_below_drewN | apply below_drew1) | exact HB.out)) hb); clear HO_12; clear HO_14; clear HO_16; clear HO270; clear HB; have HO_12 := n0_; have HO_14 := n1_; have HO_16 := n2_; have HO270 := n3_; have HO274 := n4_; have HB := n5_; clear n0_ n1_ n2_ n3_ n4_ n5_; (try clear hb); (try clear hb2); (try clear hk); (try clear hi); (try clear ho0); obtain ⟨Ao50, co50, eo50⟩ := Kd.R_slice HO_14.out; subst eo50) | (go_at_call 14; (with_reducible refine (cohousingref04_Same.calls k1 _ _ t254 _ _ t258 true _ ?side1 ?side2 ?side3 ?side4 A42.out).mono ?_); (case side1 => repeat (first | exact (Kd.R_reads' HO_12.out).2.2 | (with_reducible refine Kd.C_alloc ?_ _) | (with_reducible refine Kd.C_drewN ?_ _) | (with_reducible refine Kd.C_drew ?_))); (case side2 => exact (Kd.R_reads' HO_12.out).2.1); (case side3 => repeat (first | exact (Kd.R_reads' HO_14.out).2.2 | (with_reducible refine Kd.C_alloc ?_ _) | (with_reducible refine Kd.C_drewN ?_ _) | (with_reducible refine Kd.C_drew ?_))); (case side4 => exact (Kd.R_reads' HO_14.out).2.1); rintro e w' ⟨rfl, ⟨nd, rfl⟩⟩; obtain ⟨Ao51, co51, eo51⟩ := Kd.R_slice HO274.out; subst eo51))
                        go_ret
                        exact ⟨by first | rfl | (simp [errW_none, errW_some] <;> rfl) | (simp [*, errW_none, errW_some] <;> rfl), by repeat (first | (with_reducible first | exact HB.out | apply below_alloc | apply pw_below_drewN | apply below_drew1) | exact HB.out)⟩
                      · rw [if_neg c44] at H
                        exact absurd H (by simp)
                    · replace c43 := Bool.eq_false_iff.mpr c43
                      subst c43
                      have H1 : (none) = some r := by rw [if_neg (show ¬ (false = true) by decide)] at H; exact H
                      clear H
                      have H := H1
                      clear H1
                      exact absurd H (by simp)
                  · rw [if_neg c41] at H
                    exact absurd H (by simp)
                · rw [if_neg c40] at H
                  exact absurd H (by simp)
              · rw [if_neg c39] at H
                exact absurd H (by simp)
      · rw [if_neg c12] at H
        have c12b0 : (t255 == 0) = false := beq_eq_false_iff_ne.mpr c12
        have c12b1 : (t255 != 0) = true := bne_iff_ne.mpr c12
        by_cases c52 : t255 = t259
        · rw [if_pos c52] at H
          have c52b0 : (t255 == t259) = true := beq_iff_eq.mpr c52
          have c52b1 : (t255 != t259) = false := bne_eq_false_iff_eq.mpr c52
          clear c52
          by_cases c53 : (t254.length : Int) = 0
          · rw [if_pos c53] at H
            have c53b0 : ((t254.length : Int) == 0) = true := beq_iff_eq.mpr c53
            have c53b1 : ((t254.length : Int) != 0) = false := bne_eq_false_iff_eq.mpr c53
            clear c53
            obtain rfl := Option.some.inj H
            go_enter Tryz.func8, Tryz.ntmps8
            go_wp2_with (first | ((with_reducible refine gate_callee (f := 10) rfl ?_); refine goesL_ (some 23) rfl rfl Tryz.func10 (by kernel_rfl) rfl #[] rfl (by (try simp only [List.map_toArray, List.map_cons, List.map_nil]); first | done | rfl | (simp only [List.length_drop, List.length_take]; rfl)) ?_; (with_reducible refine (cohousinglaw16_head.calls k  true _ A6.out).mono ?_); rintro e w54 ⟨rfl, hb⟩; refine ⟨_, rfl, ?_⟩; have n0_ := Aside0.mk (below_step (by repeat (first | (with_reducible first | exact HB.out | apply below_alloc | apply pw_below_drewN | apply below_drew1) | exact HB.out)) hb); clear HB; have HB := n0_; clear n0_; (try clear hb); (try clear hb2); (try clear hk); (try clear hi)) | ((with_reducible refine gate_callee (f := 15) rfl ?_); refine goesL_ (some 34) rfl rfl Tryz.func15 (by kernel_rfl) rfl #[.slice A0 l0.length c0, .int .i64 a1, .string a2, .int .i64 a3, .int .i64 a4] rfl (by (try simp only [List.map_toArray, List.map_cons, List.map_nil]); first | done | rfl | (simp only [List.length_drop, List.length_take]; rfl)) ?_; (with_reducible refine (facts_Differ.calls _ _ l0 a1 a2 a3 a4 t254 t255 _ ?side1 ?side2 A10.out).mono ?_); (case side1 => repeat (first | exact (Kd.C_below HR0.out HB.out) | (with_reducible refine Kd.C_alloc ?_ _) | (with_reducible refine Kd.C_drewN ?_ _) | (with_reducible refine Kd.C_drew ?_))); (case side2 => exact HC0.out); rintro e w55 ⟨v256, rfl, ho0, hb⟩; refine ⟨_, rfl, ?_⟩; have n0_ := Aside0.mk (Kd.R_lower ho0 (below_size (by repeat (first | (with_reducible first | exact HB.out | apply below_alloc | apply pw_below_drewN | apply below_drew1) | exact HB.out)))); have n1_ := Aside0.mk (below_step (by repeat (first | (with_reducible first | exact HB.out | apply below_alloc | apply pw_below_drewN | apply below_drew1) | exact HB.out)) hb); clear HB; have HO257 := n0_; have HB := n1_; clear n0_ n1_; (try clear hb); (try clear hb2); (try clear hk); (try clear hi); (try clear ho0)) | ((with_reducible refine gate_callee (f := 15) rfl ?_); refine goesL_ (some 43) rfl rfl Tryz.func15 (by kernel_rfl) rfl #[.slice A0 l0.length c0, .int .i64 a1, .string a2, .int .i64 a4, .int .i64 a3] rfl (by (try simp only [List.map_toArray, List.map_cons, List.map_nil]); first | done | rfl | (simp only [List.length_drop, List.length_take]; rfl)) ?_; (with_reducible refine (facts_Differ.calls _ _ l0 a1 a2 a4 a3 t258 t259 _ ?side1 ?side2 A11.out).mono ?_); (case side1 => repeat (first | exact (Kd.C_below HR0.out HB.out) | (with_reducible refine Kd.C_alloc ?_ _) | (with_reducible refine Kd.C_drewN ?_ _) | (with_reducible refine Kd.C_drew ?_))); (case side2 => exact HC0.out); rintro e w56 ⟨v260, rfl, ho0, hb⟩; refine ⟨_, rfl, ?_⟩; have n0_ := Aside0.mk (Kd.R_elder' (by (with_reducible repeat (first | apply Kd.R_alloc | apply Kd.R_drewN | apply Kd.R_drew)); exact HO257.out) (Kd.R_base ho0) hb); have n1_ := Aside0.mk (Kd.R_lower (Kd.R_new' ho0 (Kd.R_lt (by (with_reducible repeat (first | apply Kd.R_alloc | apply Kd.R_drewN | apply Kd.R_drew)); exact HO257.out))) (below_size (by repeat (first | (with_reducible first | exact HB.out | apply below_alloc | apply pw_below_drewN | apply below_drew1) | exact HB.out)))); have n2_ := Aside0.mk (below_step (by repeat (first | (with_reducible first | exact HB.out | apply below_alloc | apply pw_below_drewN | apply below_drew1) | exact HB.out)) hb); clear HO257; clear HB; have HO257 := n0_; have HO261 := n1_; have HB := n2_; clear n0_ n1_ n2_; (try clear hb); (try clear hb2); (try clear hk); (try clear hi); (try clear ho0); obtain ⟨Ao57, co57, eo57⟩ := Kd.R_slice HO257.out; subst eo57))
            go_ret
            exact ⟨by first | rfl | (simp [errW_none, errW_some] <;> rfl) | (simp [*, errW_none, errW_some] <;> rfl), by repeat (first | (with_reducible first | exact HB.out | apply below_alloc | apply pw_below_drewN | apply below_drew1) | exact HB.out)⟩
          · rw [if_neg c53] at H
            exact absurd H (by simp)
        · rw [if_neg c52] at H
          exact absurd H (by simp)
  · replace c7 := Bool.eq_false_iff.mpr c7
    subst c7
    have H1 : (none) = some r := by rw [if_neg (show ¬ (false = true) by decide)] at H; exact H
    clear H
    have H := H1
    clear H1
    exact absurd H (by simp)

end Go.Proofs.YthcjocojngochaaGreatDoor.X
