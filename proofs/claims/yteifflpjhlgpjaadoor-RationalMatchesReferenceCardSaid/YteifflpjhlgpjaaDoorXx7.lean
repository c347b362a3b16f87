-- Written by a program of mine (wip/tools/xprint.py) over the kit's print.py: printed functions and hand-proved ones side by side.
import Derived.Test.YteifflpjhlgpjaaDoorXx0
import Derived.Test.YteifflpjhlgpjaaDoorXx6
namespace Go.Proofs.YteifflpjhlgpjaaDoor.X
open Go.RowKit Go.Proofs.YteifflpjhlgpjaaDoorW.PrintWords Go.Proofs.YteifflpjhlgpjaaDoorW.PrintLast Go.Proofs.YteifflpjhlgpjaaDoorW.PrintMore
attribute [local go_sem] max2_int min2_int max_two min_two max_three min_three max_four min_four   -- for this text's walks alone
set_option linter.unusedVariables false
set_option linter.unusedSimpArgs false

/-! ### cohousingref01_Text: function 31 -/
def cohousingref01_Text.f (k : Nat) (a0_0 : Int) (a0_1 : Int) : Option (ByteArray × Int) := (cohousingref01_Valid.f k a0_0 a0_1).bind fun t289 => (if t289 = true then ((cohousingref01_Digits.f k (mx a0_0 (wrap64 (-a0_0)))).bind fun t290 => (if a0_0 < 0 then (if 1 + t290.size ≤ 9223372036854775807 then (if a0_1 > 1 then (if 1 + t290.size + 1 ≤ 9223372036854775807 then ((cohousingref01_Digits.f k a0_1).bind fun t291 => (if 1 + t290.size + 1 + t291.size ≤ 9223372036854775807 then (some ((((⟨#[45]⟩ : ByteArray) ++ t290) ++ (⟨#[47]⟩ : ByteArray)) ++ t291, 0)) else (none))) else (none)) else (some ((⟨#[45]⟩ : ByteArray) ++ t290, 0))) else (none)) else (if a0_1 > 1 then (if t290.size + 1 ≤ 9223372036854775807 then ((cohousingref01_Digits.f k a0_1).bind fun t292 => (if t290.size + 1 + t292.size ≤ 9223372036854775807 then (some ((t290 ++ (⟨#[47]⟩ : ByteArray)) ++ t292, 0)) else (none))) else (none)) else (some (t290, 0))))) else (some ((⟨#[]⟩ : ByteArray), 1)))
theorem cohousingref01_Text.mono : ∀ a0 a1 k, LeO (cohousingref01_Text.f k a0 a1) (cohousingref01_Text.f (k + 1) a0 a1) := by
 intro a0 a1 k
 unfold cohousingref01_Text.f
 repeat' first
   | (with_reducible exact cohousingref01_Digits.mono _ _)
   | (with_reducible exact cohousingref01_Valid.mono _ _ _)
   | (with_reducible exact LeO.refl _)
   | (with_reducible exact LeO.none _)
   | (with_reducible refine LeO.ite ?_ ?_)
   | (with_reducible refine LeO.bind ?_ (fun _ => ?_))
   | exact cohousingref01_Digits.mono _ _
   | exact cohousingref01_Valid.mono _ _ _
   | exact LeO.none _
   | refine LeO.ite ?_ ?_
   | refine LeO.bind ?_ (fun _ => ?_)
set_option maxHeartbeats 8000000 in
set_option maxRecDepth 100000 in
theorem cohousingref01_Text.calls (k : Nat) (a0_0 : Int) (a0_1 : Int) (r1 : ByteArray) (r2 : Int) (w : World) (h : cohousingref01_Text.f k a0_0 a0_1 = some (r1, r2)) :
  Calls Tryd.prog 31 #[.agg #[.int .i64 a0_0, .int .i64 a0_1]] w fun e w' => e = .returned (.tuple #[.string r1, .int .i64 r2]) ∧ Below w.heap.size w w' := by
 have hu24 := Tryd.underlying24
 have HB := Aside0.mk (Below.refl w.heap.size w)
 have H : ((cohousingref01_Valid.f k a0_0 a0_1).bind fun t289 => (if t289 = true then ((cohousingref01_Digits.f k (mx a0_0 (wrap64 (-a0_0)))).bind fun t290 => (if a0_0 < 0 then (if 1 + t290.size ≤ 9223372036854775807 then (if a0_1 > 1 then (if 1 + t290.size + 1 ≤ 9223372036854775807 then ((cohousingref01_Digits.f k a0_1).bind fun t291 => (if 1 + t290.size + 1 + t291.size ≤ 9223372036854775807 then (some ((((⟨#[45]⟩ : ByteArray) ++ t290) ++ (⟨#[47]⟩ : ByteArray)) ++ t291, 0)) else (none))) else (none)) else (some ((⟨#[45]⟩ : ByteArray) ++ t290, 0))) else (none)) else (if a0_1 > 1 then (if t290.size + 1 ≤ 9223372036854775807 then ((cohousingref01_Digits.f k a0_1).bind fun t292 => (if t290.size + 1 + t292.size ≤ 9223372036854775807 then (some ((t290 ++ (⟨#[47]⟩ : ByteArray)) ++ t292, 0)) else (none))) else (none)) else (some (t290, 0))))) else (some ((⟨#[]⟩ : ByteArray), 1)))) = some (r1, r2) := h
 clear h
 replace H := Option.bind_eq_some_iff.mp H
 obtain ⟨t289, A20, H⟩ := H
 replace H : (if t289 = true then ((cohousingref01_Digits.f k (mx a0_0 (wrap64 (-a0_0)))).bind fun t290 => (if a0_0 < 0 then (if 1 + t290.size ≤ 9223372036854775807 then (if a0_1 > 1 then (if 1 + t290.size + 1 ≤ 9223372036854775807 then ((cohousingref01_Digits.f k a0_1).bind fun t291 => (if 1 + t290.size + 1 + t291.size ≤ 9223372036854775807 then (some ((((⟨#[45]⟩ : ByteArray) ++ t290) ++ (⟨#[47]⟩ : ByteArray)) ++ t291, 0)) else (none))) else (none)) else (some ((⟨#[45]⟩ : ByteArray) ++ t290, 0))) else (none)) else (if a0_1 > 1 then (if t290.size + 1 ≤ 9223372036854775807 then ((cohousingref01_Digits.f k a0_1).bind fun t292 => (if t290.size + 1 + t292.size ≤ 9223372036854775807 then (some ((t290 ++ (⟨#[47]⟩ : ByteArray)) ++ t292, 0)) else (none))) else (none)) else (some (t290, 0))))) else (some ((⟨#[]⟩ : ByteArray), 1))) = some (r1, r2) := H
 have A2 := Aside0.mk A20
 clear A20
 by_cases c3 : t289 = true
 ·subst c3
  have H1 : ((cohousingref01_Digits.f k (mx a0_0 (wrap64 (-a0_0)))).bind fun t290 => (if a0_0 < 0 then (if 1 + t290.size ≤ 9223372036854775807 then (if a0_1 > 1 then (if 1 + t290.size + 1 ≤ 9223372036854775807 then ((cohousingref01_Digits.f k a0_1).bind fun t291 => (if 1 + t290.size + 1 + t291.size ≤ 9223372036854775807 then (some ((((⟨#[45]⟩ : ByteArray) ++ t290) ++ (⟨#[47]⟩ : ByteArray)) ++ t291, 0)) else (none))) else (none)) else (some ((⟨#[45]⟩ : ByteArray) ++ t290, 0))) else (none)) else (if a0_1 > 1 then (if t290.size + 1 ≤ 9223372036854775807 then ((cohousingref01_Digits.f k a0_1).bind fun t292 => (if t290.size + 1 + t292.size ≤ 9223372036854775807 then (some ((t290 ++ (⟨#[47]⟩ : ByteArray)) ++ t292, 0)) else (none))) else (none)) else (some (t290, 0))))) = some (r1, r2) := by rw [if_pos rfl] at H; exact H
  clear H
  have H := H1
  clear H1
  obtain ⟨ji4, hji4⟩ : ∃ j_ : Int, (mx a0_0 (wrap64 (-a0_0))) = j_ := ⟨_, rfl⟩
  replace H : ((cohousingref01_Digits.f k (ji4)).bind fun t290 => (if a0_0 < 0 then (if 1 + t290.size ≤ 9223372036854775807 then (if a0_1 > 1 then (if 1 + t290.size + 1 ≤ 9223372036854775807 then ((cohousingref01_Digits.f k a0_1).bind fun t291 => (if 1 + t290.size + 1 + t291.size ≤ 9223372036854775807 then (some ((((⟨#[45]⟩ : ByteArray) ++ t290) ++ (⟨#[47]⟩ : ByteArray)) ++ t291, 0)) else (none))) else (none)) else (some ((⟨#[45]⟩ : ByteArray) ++ t290, 0))) else (none)) else (if a0_1 > 1 then (if t290.size + 1 ≤ 9223372036854775807 then ((cohousingref01_Digits.f k a0_1).bind fun t292 => (if t290.size + 1 + t292.size ≤ 9223372036854775807 then (some ((t290 ++ (⟨#[47]⟩ : ByteArray)) ++ t292, 0)) else (none))) else (none)) else (some (t290, 0))))) = some (r1, r2) := by first | (rw [hji4] at H; exact H) | (simp only [hji4] at H ⊢; exact H)
  (try rw [hji4] at A2)
  have hji4_ : (if a0_0 < (wrap64 (-a0_0)) then (wrap64 (-a0_0)) else a0_0) = ji4 := hji4
  replace H := Option.bind_eq_some_iff.mp H
  obtain ⟨t290, A50, H⟩ := H
  replace H : (if a0_0 < 0 then (if 1 + t290.size ≤ 9223372036854775807 then (if a0_1 > 1 then (if 1 + t290.size + 1 ≤ 9223372036854775807 then ((cohousingref01_Digits.f k a0_1).bind fun t291 => (if 1 + t290.size + 1 + t291.size ≤ 9223372036854775807 then (some ((((⟨#[45]⟩ : ByteArray) ++ t290) ++ (⟨#[47]⟩ : ByteArray)) ++ t291, 0)) else (none))) else (none)) else (some ((⟨#[45]⟩ : ByteArray) ++ t290, 0))) else (none)) else (if a0_1 > 1 then (if t290.size + 1 ≤ 9223372036854775807 then ((cohousingref01_Digits.f k a0_1).bind fun t292 => (if t290.size + 1 + t292.size ≤ 9223372036854775807 then (some ((t290 ++ (⟨#[47]⟩ : ByteArray)) ++ t292, 0)) else (none))) else (none)) else (some (t290, 0)))) = some (r1, r2) := H
  have A5 := Aside0.mk A50
  clear A50
  by_cases c6 : a0_0 < 0
  ·rw [if_pos c6] at H
   have c6b0 : decide (a0_0 < 0) = true := dT c6
   clear c6
   by_cases c7 : 1 + t290.size ≤ 9223372036854775807
   ·rw [if_pos c7] at H
    have c7b0 := eq_true c7
    have c7b1 : decide (1 + t290.size ≤ 9223372036854775807) = true := dT c7
    try have c7b2 : (9223372036854775807 < 1 + t290.size) = False := eq_false (Nat.not_lt.2 c7)
    by_cases c8 : a0_1 > 1
    ·rw [if_pos c8] at H
     have c8b0 : decide (1 < a0_1) = true := dT c8
     clear c8
     by_cases c9 : 1 + t290.size + 1 ≤ 9223372036854775807
     ·rw [if_pos c9] at H
      have c9b0 := eq_true c9
      have c9b1 : decide (1 + t290.size + 1 ≤ 9223372036854775807) = true := dT c9
      try have c9b2 : (9223372036854775807 < 1 + t290.size + 1) = False := eq_false (Nat.not_lt.2 c9)
      replace H := Option.bind_eq_some_iff.mp H
      obtain ⟨t291, A100, H⟩ := H
      replace H : (if 1 + t290.size + 1 + t291.size ≤ 9223372036854775807 then (some ((((⟨#[45]⟩ : ByteArray) ++ t290) ++ (⟨#[47]⟩ : ByteArray)) ++ t291, 0)) else (none)) = some (r1, r2) := H
      have A10 := Aside0.mk A100
      clear A100
      by_cases c11 : 1 + t290.size + 1 + t291.size ≤ 9223372036854775807
      ·rw [if_pos c11] at H
       have c11b0 := eq_true c11
       have c11b1 : decide (1 + t290.size + 1 + t291.size ≤ 9223372036854775807) = true := dT c11
       try have c11b2 : (9223372036854775807 < 1 + t290.size + 1 + t291.size) = False := eq_false (Nat.not_lt.2 c11)
       simp only [Option.some.injEq, Prod.mk.injEq] at H
       obtain ⟨rfl, rfl⟩ := H
       go_enter Tryd.func31, Tryd.ntmps31
       go_wp2_with (first | ((with_reducible refine gate_dst (N := 1) rfl ?_); refine box_event ?hg (N := 1) ?hd (cs := #[.int .i64 a0_0, .int .i64 a0_1]) (t := 24) ?hr ?_; (case hd => rfl); (case hg => rfl); (case hr => first | (go_simp; done) | (go_simp; rfl)); intro gb288 hg w12 hbox hb; have n0_ := Aside0.mk (bT (by repeat (first | (with_reducible first | exact HB.out | apply bA | apply bN | apply b1) | exact HB.out)) hb); have n1_ := Aside0.mk (hbox); have n2_ := Aside0.mk ((by rw [hg]; exact (bZ (by repeat (first | (with_reducible first | exact HB.out | apply bA | apply bN | apply b1) | exact HB.out))) : w.heap.size ≤ gb288)); have n3_ := n2_; clear HB; have HB := n0_; have BK288 := n1_; have GW288 := n2_; have GE288 := n3_; clear n0_ n1_ n2_ n3_; clear hb hbox hg; have hcz13_0 : w12.cell? ⟨gb288, 0, none⟩ = some (.int .i64 a0_0) := (kC BK288.out 0).trans rfl; have hcz13_1 : w12.cell? ⟨gb288, 1, none⟩ = some (.int .i64 a0_1) := (kC BK288.out 1).trans rfl; have hfz13_0 := blk_frozen BK288.out 0; have hfz13_1 := blk_frozen BK288.out 1) | ((with_reducible refine gate_callee (f := 20) rfl ?_); refine goesL_ (some 6) rfl rfl Tryd.func20 (by kernel_rfl) rfl #[.agg #[.int .i64 a0_0, .int .i64 a0_1]] rfl (by (try simp only [List.map_toArray, List.map_cons, List.map_nil]); first | done | rfl | (simp only [List.length_drop, List.length_take]; rfl)) ?_; (with_reducible refine (cohousingref01_Valid.calls k a0_0 a0_1 true _ A2.out).mono ?_); rintro e w14 ⟨rfl, hb⟩; refine ⟨_, rfl, ?_⟩; have n0_ := Aside0.mk (kB (g := gb288) (o := .cells #[.int .i64 a0_0, .int .i64 a0_1] 24 (0, 0)) (by (with_reducible repeat (first | refine kN ?_ _ | refine kD ?_ | refine kA ?_ _)); exact BK288.out) hb); have n1_ := Aside0.mk (bT (by repeat (first | (with_reducible first | exact HB.out | apply bA | apply bN | apply b1 | refine bS ?_ GE288.out) | exact HB.out)) hb); clear BK288; clear HB; have BK288 := n0_; have HB := n1_; clear n0_ n1_; (try clear hb); (try clear hb2); (try clear hk); (try clear hi); have hcz15_0 : w14.cell? ⟨gb288, 0, none⟩ = some (.int .i64 a0_0) := (kC BK288.out 0).trans rfl; have hcz15_1 : w14.cell? ⟨gb288, 1, none⟩ = some (.int .i64 a0_1) := (kC BK288.out 1).trans rfl; have hfz15_0 := blk_frozen BK288.out 0; have hfz15_1 := blk_frozen BK288.out 1) | ((with_reducible refine gate_callee (f := 48) rfl ?_); refine goesL_ (some 14) rfl rfl Tryd.func48 (by kernel_rfl) rfl #[.int .i64 ji4] rfl (by (try simp only [List.map_toArray, List.map_cons, List.map_nil]); first | done | (simp only [hji4]; rfl) | rfl | (simp only [List.length_drop, List.length_take]; rfl)) ?_; (with_reducible refine (cohousingref01_Digits.calls k ji4 t290 _ A5.out).mono ?_); rintro e w16 ⟨rfl, hb⟩; refine ⟨_, rfl, ?_⟩; have n0_ := Aside0.mk (kB (g := gb288) (o := .cells #[.int .i64 a0_0, .int .i64 a0_1] 24 (0, 0)) (by (with_reducible repeat (first | refine kN ?_ _ | refine kD ?_ | refine kA ?_ _)); exact BK288.out) hb); have n1_ := Aside0.mk (bT (by repeat (first | (with_reducible first | exact HB.out | apply bA | apply bN | apply b1 | refine bS ?_ GE288.out) | exact HB.out)) hb); clear BK288; clear HB; have BK288 := n0_; have HB := n1_; clear n0_ n1_; (try clear hb); (try clear hb2); (try clear hk); (try clear hi); have hcz17_0 : w16.cell? ⟨gb288, 0, none⟩ = some (.int .i64 a0_0) := (kC BK288.out 0).trans rfl; have hcz17_1 : w16.cell? ⟨gb288, 1, none⟩ = some (.int .i64 a0_1) := (kC BK288.out 1).trans rfl; have hfz17_0 := blk_frozen BK288.out 0; have hfz17_1 := blk_frozen BK288.out 1) | ((with_reducible refine gate_callee (f := 48) rfl ?_); refine goesL_ (some 27) rfl rfl Tryd.func48 (by kernel_rfl) rfl #[.int .i64 a0_1] rfl (by (try simp only [List.map_toArray, List.map_cons, List.map_nil]); first | done | rfl | (simp only [List.length_drop, List.length_take]; rfl)) ?_; (with_reducible refine (cohousingref01_Digits.calls k a0_1 t291 _ A10.out).mono ?_); rintro e w18 ⟨rfl, hb⟩; refine ⟨_, rfl, ?_⟩; have n0_ := Aside0.mk (kB (g := gb288) (o := .cells #[.int .i64 a0_0, .int .i64 a0_1] 24 (0, 0)) (by (with_reducible repeat (first | refine kN ?_ _ | refine kD ?_ | refine kA ?_ _)); exact BK288.out) hb); have n1_ := Aside0.mk (bT (by repeat (first | (with_reducible first | exact HB.out | apply bA | apply bN | apply b1 | refine bS ?_ GE288.out) | exact HB.out)) hb); clear BK288; clear HB; have BK288 := n0_; have HB := n1_; clear n0_ n1_; (try clear hb); (try clear hb2); (try clear hk); (try clear hi)))
       go_ret2
       exact ⟨by first | rfl | (simp [errW_none, errW_some] <;> rfl) | (simp only [← hji4]; first | rfl | (simp [errW_none, errW_some] <;> rfl)) | (simp [*, errW_none, errW_some] <;> rfl), by repeat (first | (with_reducible first | exact HB.out | apply bA | apply bN | apply b1 | refine bS ?_ GE288.out) | exact HB.out)⟩
      ·rw [if_neg c11] at H
       exact absurd H (by simp)
     ·rw [if_neg c9] at H
      exact absurd H (by simp)
    ·rw [if_neg c8] at H
     have c8b0 : decide (1 < a0_1) = false := dF c8
     clear c8
     simp only [Option.some.injEq, Prod.mk.injEq] at H
     obtain ⟨rfl, rfl⟩ := H
     go_enter Tryd.func31, Tryd.ntmps31
     go_wp2_with (first | ((with_reducible refine gate_dst (N := 1) rfl ?_); refine box_event ?hg (N := 1) ?hd (cs := #[.int .i64 a0_0, .int .i64 a0_1]) (t := 24) ?hr ?_; (case hd => rfl); (case hg => rfl); (case hr => first | (go_simp; done) | (go_simp; rfl)); intro gb288 hg w19 hbox hb; have n0_ := Aside0.mk (bT (by repeat (first | (with_reducible first | exact HB.out | apply bA | apply bN | apply b1) | exact HB.out)) hb); have n1_ := Aside0.mk (hbox); have n2_ := Aside0.mk ((by rw [hg]; exact (bZ (by repeat (first | (with_reducible first | exact HB.out | apply bA | apply bN | apply b1) | exact HB.out))) : w.heap.size ≤ gb288)); have n3_ := n2_; clear HB; have HB := n0_; have BK288 := n1_; have GW288 := n2_; have GE288 := n3_; clear n0_ n1_ n2_ n3_; clear hb hbox hg; have hcz20_0 : w19.cell? ⟨gb288, 0, none⟩ = some (.int .i64 a0_0) := (kC BK288.out 0).trans rfl; have hcz20_1 : w19.cell? ⟨gb288, 1, none⟩ = some (.int .i64 a0_1) := (kC BK288.out 1).trans rfl; have hfz20_0 := blk_frozen BK288.out 0; have hfz20_1 := blk_frozen BK288.out 1) | ((with_reducible refine gate_callee (f := 20) rfl ?_); refine goesL_ (some 6) rfl rfl Tryd.func20 (by kernel_rfl) rfl #[.agg #[.int .i64 a0_0, .int .i64 a0_1]] rfl (by (try simp only [List.map_toArray, List.map_cons, List.map_nil]); first | done | rfl | (simp only [List.length_drop, List.length_take]; rfl)) ?_; (with_reducible refine (cohousingref01_Valid.calls k a0_0 a0_1 true _ A2.out).mono ?_); rintro e w21 ⟨rfl, hb⟩; refine ⟨_, rfl, ?_⟩; have n0_ := Aside0.mk (kB (g := gb288) (o := .cells #[.int .i64 a0_0, .int .i64 a0_1] 24 (0, 0)) (by (with_reducible repeat (first | refine kN ?_ _ | refine kD ?_ | refine kA ?_ _)); exact BK288.out) hb); have n1_ := Aside0.mk (bT (by repeat (first | (with_reducible first | exact HB.out | apply bA | apply bN | apply b1 | refine bS ?_ GE288.out) | exact HB.out)) hb); clear BK288; clear HB; have BK288 := n0_; have HB := n1_; clear n0_ n1_; (try clear hb); (try clear hb2); (try clear hk); (try clear hi); have hcz22_0 : w21.cell? ⟨gb288, 0, none⟩ = some (.int .i64 a0_0) := (kC BK288.out 0).trans rfl; have hcz22_1 : w21.cell? ⟨gb288, 1, none⟩ = some (.int .i64 a0_1) := (kC BK288.out 1).trans rfl; have hfz22_0 := blk_frozen BK288.out 0; have hfz22_1 := blk_frozen BK288.out 1) | ((with_reducible refine gate_callee (f := 48) rfl ?_); refine goesL_ (some 14) rfl rfl Tryd.func48 (by kernel_rfl) rfl #[.int .i64 ji4] rfl (by (try simp only [List.map_toArray, List.map_cons, List.map_nil]); first | done | (simp only [hji4]; rfl) | rfl | (simp only [List.length_drop, List.length_take]; rfl)) ?_; (with_reducible refine (cohousingref01_Digits.calls k ji4 t290 _ A5.out).mono ?_); rintro e w23 ⟨rfl, hb⟩; refine ⟨_, rfl, ?_⟩; have n0_ := Aside0.mk (kB (g := gb288) (o := .cells #[.int .i64 a0_0, .int .i64 a0_1] 24 (0, 0)) (by (with_reducible repeat (first | refine kN ?_ _ | refine kD ?_ | refine kA ?_ _)); exact BK288.out) hb); have n1_ := Aside0.mk (bT (by repeat (first | (with_reducible first | exact HB.out | apply bA | apply bN | apply b1 | refine bS ?_ GE288.out) | exact HB.out)) hb); clear BK288; clear HB; have BK288 := n0_; have HB := n1_; clear n0_ n1_; (try clear hb); (try clear hb2); (try clear hk); (try clear hi); have hcz24_0 : w23.cell? ⟨gb288, 0, none⟩ = some (.int .i64 a0_0) := (kC BK288.out 0).trans rfl; have hcz24_1 : w23.cell? ⟨gb288, 1, none⟩ = some (.int .i64 a0_1) := (kC BK288.out 1).trans rfl; have hfz24_0 := blk_frozen BK288.out 0; have hfz24_1 := blk_frozen BK288.out 1))
     go_ret2
     exact ⟨by first | rfl | (simp [errW_none, errW_some] <;> rfl) | (simp only [← hji4]; first | rfl | (simp [errW_none, errW_some] <;> rfl)) | (simp [*, errW_none, errW_some] <;> rfl), by repeat (first | (with_reducible first | exact HB.out | apply bA | apply bN | apply b1 | refine bS ?_ GE288.out) | exact HB.out)⟩
   ·rw [if_neg c7] at H
    exact absurd H (by simp)
  ·rw [if_neg c6] at H
   have c6b0 : decide (a0_0 < 0) = false := dF c6
   clear c6
   by_cases c25 : a0_1 > 1
   ·rw [if_pos c25] at H
    have c25b0 : decide (1 < a0_1) = true := dT c25
    clear c25
    by_cases c26 : t290.size + 1 ≤ 9223372036854775807
    ·rw [if_pos c26] at H
     have c26b0 := eq_true c26
     have c26b1 : decide (t290.size + 1 ≤ 9223372036854775807) = true := dT c26
     try have c26b2 : (9223372036854775807 < t290.size + 1) = False := eq_false (Nat.not_lt.2 c26)
     replace H := Option.bind_eq_some_iff.mp H
     obtain ⟨t292, A270, H⟩ := H
     replace H : (if t290.size + 1 + t292.size ≤ 9223372036854775807 then (some ((t290 ++ (⟨#[47]⟩ : ByteArray)) ++ t292, 0)) else (none)) = some (r1, r2) := H
     have A27 := Aside0.mk A270
     clear A270
     by_cases c28 : t290.size + 1 + t292.size ≤ 9223372036854775807
     ·rw [if_pos c28] at H
      have c28b0 := eq_true c28
      have c28b1 : decide (t290.size + 1 + t292.size ≤ 9223372036854775807) = true := dT c28
      try have c28b2 : (9223372036854775807 < t290.size + 1 + t292.size) = False := eq_false (Nat.not_lt.2 c28)
      simp only [Option.some.injEq, Prod.mk.injEq] at H
      obtain ⟨rfl, rfl⟩ := H
      go_enter Tryd.func31, Tryd.ntmps31
      go_wp2_with (first | ((with_reducible refine gate_dst (N := 1) rfl ?_); refine box_event ?hg (N := 1) ?hd (cs := #[.int .i64 a0_0, .int .i64 a0_1]) (t := 24) ?hr ?_; (case hd => rfl); (case hg => rfl); (case hr => first | (go_simp; done) | (go_simp; rfl)); intro gb288 hg w29 hbox hb; have n0_ := Aside0.mk (bT (by repeat (first | (with_reducible first | exact HB.out | apply bA | apply bN | apply b1) | exact HB.out)) hb); have n1_ := Aside0.mk (hbox); have n2_ := Aside0.mk ((by rw [hg]; exact (bZ (by repeat (first | (with_reducible first | exact HB.out | apply bA | apply bN | apply b1) | exact HB.out))) : w.heap.size ≤ gb288)); have n3_ := n2_; clear HB; have HB := n0_; have BK288 := n1_; have GW288 := n2_; have GE288 := n3_; clear n0_ n1_ n2_ n3_; clear hb hbox hg; have hcz30_0 : w29.cell? ⟨gb288, 0, none⟩ = some (.int .i64 a0_0) := (kC BK288.out 0).trans rfl; have hcz30_1 : w29.cell? ⟨gb288, 1, none⟩ = some (.int .i64 a0_1) := (kC BK288.out 1).trans rfl; have hfz30_0 := blk_frozen BK288.out 0; have hfz30_1 := blk_frozen BK288.out 1) | ((with_reducible refine gate_callee (f := 20) rfl ?_); refine goesL_ (some 6) rfl rfl Tryd.func20 (by kernel_rfl) rfl #[.agg #[.int .i64 a0_0, .int .i64 a0_1]] rfl (by (try simp only [List.map_toArray, List.map_cons, List.map_nil]); first | done | rfl | (simp only [List.length_drop, List.length_take]; rfl)) ?_; (with_reducible refine (cohousingref01_Valid.calls k a0_0 a0_1 true _ A2.out).mono ?_); rintro e w31 ⟨rfl, hb⟩; refine ⟨_, rfl, ?_⟩; have n0_ := Aside0.mk (kB (g := gb288) (o := .cells #[.int .i64 a0_0, .int .i64 a0_1] 24 (0, 0)) (by (with_reducible repeat (first | refine kN ?_ _ | refine kD ?_ | refine kA ?_ _)); exact BK288.out) hb); have n1_ := Aside0.mk (bT (by repeat (first | (with_reducible first | exact HB.out | apply bA | apply bN | apply b1 | refine bS ?_ GE288.out) | exact HB.out)) hb); clear BK288; clear HB; have BK288 := n0_; have HB := n1_; clear n0_ n1_; (try clear hb); (try clear hb2); (try clear hk); (try clear hi); have hcz32_0 : w31.cell? ⟨gb288, 0, none⟩ = some (.int .i64 a0_0) := (kC BK288.out 0).trans rfl; have hcz32_1 : w31.cell? ⟨gb288, 1, none⟩ = some (.int .i64 a0_1) := (kC BK288.out 1).trans rfl; have hfz32_0 := blk_frozen BK288.out 0; have hfz32_1 := blk_frozen BK288.out 1) | ((with_reducible refine gate_callee (f := 48) rfl ?_); refine goesL_ (some 14) rfl rfl Tryd.func48 (by kernel_rfl) rfl #[.int .i64 ji4] rfl (by (try simp only [List.map_toArray, List.map_cons, List.map_nil]); first | done | (simp only [hji4]; rfl) | rfl | (simp only [List.length_drop, List.length_take]; rfl)) ?_; (with_reducible refine (cohousingref01_Digits.calls k ji4 t290 _ A5.out).mono ?_); rintro e w33 ⟨rfl, hb⟩; refine ⟨_, rfl, ?_⟩; have n0_ := Aside0.mk (kB (g := gb288) (o := .cells #[.int .i64 a0_0, .int .i64 a0_1] 24 (0, 0)) (by (with_reducible repeat (first | refine kN ?_ _ | refine kD ?_ | refine kA ?_ _)); exact BK288.out) hb); have n1_ := Aside0.mk (bT (by repeat (first | (with_reducible first | exact HB.out | apply bA | apply bN | apply b1 | refine bS ?_ GE288.out) | exact HB.out)) hb); clear BK288; clear HB; have BK288 := n0_; have HB := n1_; clear n0_ n1_; (try clear hb); (try clear hb2); (try clear hk); (try clear hi); have hcz34_0 : w33.cell? ⟨gb288, 0, none⟩ = some (.int .i64 a0_0) := (kC BK288.out 0).trans rfl; have hcz34_1 : w33.cell? ⟨gb288, 1, none⟩ = some (.int .i64 a0_1) := (kC BK288.out 1).trans rfl; have hfz34_0 := blk_frozen BK288.out 0; have hfz34_1 := blk_frozen BK288.out 1) | ((with_reducible refine gate_callee (f := 48) rfl ?_); refine goesL_ (some 27) rfl rfl Tryd.func48 (by kernel_rfl) rfl #[.int .i64 a0_1] rfl (by (try simp only [List.map_toArray, List.map_cons, List.map_nil]); first | done | rfl | (simp only [List.length_drop, List.length_take]; rfl)) ?_; (with_reducible refine (cohousingref01_Digits.calls k a0_1 t292 _ A27.out).mono ?_); rintro e w35 ⟨rfl, hb⟩; refine ⟨_, rfl, ?_⟩; have n0_ := Aside0.mk (kB (g := gb288) (o := .cells #[.int .i64 a0_0, .int .i64 a0_1] 24 (0, 0)) (by (with_reducible repeat (first | refine kN ?_ _ | refine kD ?_ | refine kA ?_ _)); exact BK288.out) hb); have n1_ := Aside0.mk (bT (by repeat (first | (with_reducible first | exact HB.out | apply bA | apply bN | apply b1 | refine bS ?_ GE288.out) | exact HB.out)) hb); clear BK288; clear HB; have BK288 := n0_; have HB := n1_; clear n0_ n1_; (try clear hb); (try clear hb2); (try clear hk); (try clear hi)))
      go_ret2
      exact ⟨by first | rfl | (simp [errW_none, errW_some] <;> rfl) | (simp only [← hji4]; first | rfl | (simp [errW_none, errW_some] <;> rfl)) | (simp [*, errW_none, errW_some] <;> rfl), by repeat (first | (with_reducible first | exact HB.out | apply bA | apply bN | apply b1 | refine bS ?_ GE288.out) | exact HB.out)⟩
     ·rw [if_neg c28] at H
      exact absurd H (by simp)
    ·rw [if_neg c26] at H
     exact absurd H (by simp)
   ·rw [if_neg c25] at H
    have c25b0 : decide (1 < a0_1) = false := dF c25
    clear c25
    simp only [Option.some.injEq, Prod.mk.injEq] at H
    obtain ⟨rfl, rfl⟩ := H
    go_enter Tryd.func31, Tryd.ntmps31
    go_wp2_with (first | ((with_reducible refine gate_dst (N := 1) rfl ?_); refine box_event ?hg (N := 1) ?hd (cs := #[.int .i64 a0_0, .int .i64 a0_1]) (t := 24) ?hr ?_; (case hd => rfl); (case hg => rfl); (case hr => first | (go_simp; done) | (go_simp; rfl)); intro gb288 hg w36 hbox hb; have n0_ := Aside0.mk (bT (by repeat (first | (with_reducible first | exact HB.out | apply bA | apply bN | apply b1) | exact HB.out)) hb); have n1_ := Aside0.mk (hbox); have n2_ := Aside0.mk ((by rw [hg]; exact (bZ (by repeat (first | (with_reducible first | exact HB.out | apply bA | apply bN | apply b1) | exact HB.out))) : w.heap.size ≤ gb288)); have n3_ := n2_; clear HB; have HB := n0_; have BK288 := n1_; have GW288 := n2_; have GE288 := n3_; clear n0_ n1_ n2_ n3_; clear hb hbox hg; have hcz37_0 : w36.cell? ⟨gb288, 0, none⟩ = some (.int .i64 a0_0) := (kC BK288.out 0).trans rfl; have hcz37_1 : w36.cell? ⟨gb288, 1, none⟩ = some (.int .i64 a0_1) := (kC BK288.out 1).trans rfl; have hfz37_0 := blk_frozen BK288.out 0; have hfz37_1 := blk_frozen BK288.out 1) | ((with_reducible refine gate_callee (f := 20) rfl ?_); refine goesL_ (some 6) rfl rfl Tryd.func20 (by kernel_rfl) rfl #[.agg #[.int .i64 a0_0, .int .i64 a0_1]] rfl (by (try simp only [List.map_toArray, List.map_cons, List.map_nil]); first | done | rfl | (simp only [List.length_drop, List.length_take]; rfl)) ?_; (with_reducible refine (cohousingref01_Valid.calls k a0_0 a0_1 true _ A2.out).mono ?_); rintro e w38 ⟨rfl, hb⟩; refine ⟨_, rfl, ?_⟩; have n0_ := Aside0.mk (kB (g := gb288) (o := .cells #[.int .i64 a0_0, .int .i64 a0_1] 24 (0, 0)) (by (with_reducible repeat (first | refine kN ?_ _ | refine kD ?_ | refine kA ?_ _)); exact BK288.out) hb); have n1_ := Aside0.mk (bT (by repeat (first | (with_reducible first | exact HB.out | apply bA | apply bN | apply b1 | refine bS ?_ GE288.out) | exact HB.out)) hb); clear BK288; clear HB; have BK288 := n0_; have HB := n1_; clear n0_ n1_; (try clear hb); (try clear hb2); (try clear hk); (try clear hi); have hcz39_0 : w38.cell? ⟨gb288, 0, none⟩ = some (.int .i64 a0_0) := (kC BK288.out 0).trans rfl; have hcz39_1 : w38.cell? ⟨gb288, 1, none⟩ = some (.int .i64 a0_1) := (kC BK288.out 1).trans rfl; have hfz39_0 := blk_frozen BK288.out 0; have hfz39_1 := blk_frozen BK288.out 1) | ((with_reducible refine gate_callee (f := 48) rfl ?_); refine goesL_ (some 14) rfl rfl Tryd.func48 (by kernel_rfl) rfl #[.int .i64 ji4] rfl (by (try simp only [List.map_toArray, List.map_cons, List.map_nil]); first | done | (simp only [hji4]; rfl) | rfl | (simp only [List.length_drop, List.length_take]; rfl)) ?_; (with_reducible refine (cohousingref01_Digits.calls k ji4 t290 _ A5.out).mono ?_); rintro e w40 ⟨rfl, hb⟩; refine ⟨_, rfl, ?_⟩; have n0_ := Aside0.mk (kB (g := gb288) (o := .cells #[.int .i64 a0_0, .int .i64 a0_1] 24 (0, 0)) (by (with_reducible repeat (first | refine kN ?_ _ | refine kD ?_ | refine kA ?_ _)); exact BK288.out) hb); have n1_ := Aside0.mk (bT (by repeat (first | (with_reducible first | exact HB.out | apply bA | apply bN | apply b1 | refine bS ?_ GE288.out) | exact HB.out)) hb); clear BK288; clear HB; have BK288 := n0_; have HB := n1_; clear n0_ n1_; (try clear hb); (try clear hb2); (try clear hk); (try clear hi); have hcz41_0 : w40.cell? ⟨gb288, 0, none⟩ = some (.int .i64 a0_0) := (kC BK288.out 0).trans rfl; have hcz41_1 : w40.cell? ⟨gb288, 1, none⟩ = some (.int .i64 a0_1) := (kC BK288.out 1).trans rfl; have hfz41_0 := blk_frozen BK288.out 0; have hfz41_1 := blk_frozen BK288.out 1))
    go_ret2
    exact ⟨by first | rfl | (simp [errW_none, errW_some] <;> rfl) | (simp only [← hji4]; first | rfl | (simp [errW_none, errW_some] <;> rfl)) | (simp [*, errW_none, errW_some] <;> rfl), by repeat (first | (with_reducible first | exact HB.out | apply bA | apply bN | apply b1 | refine bS ?_ GE288.out) | exact HB.out)⟩
 ·replace c3 := Bool.eq_false_iff.mpr c3
  subst c3
  have H1 : (some ((⟨#[]⟩ : ByteArray), 1)) = some (r1, r2) := by rw [if_neg (show ¬ (false = true) by decide)] at H; exact H
  clear H
  have H := H1
  clear H1
  simp only [Option.some.injEq, Prod.mk.injEq] at H
  obtain ⟨rfl, rfl⟩ := H
  go_enter Tryd.func31, Tryd.ntmps31
  go_wp2_with (first | ((with_reducible refine gate_dst (N := 1) rfl ?_); refine box_event ?hg (N := 1) ?hd (cs := #[.int .i64 a0_0, .int .i64 a0_1]) (t := 24) ?hr ?_; (case hd => rfl); (case hg => rfl); (case hr => first | (go_simp; done) | (go_simp; rfl)); intro gb288 hg w42 hbox hb; have n0_ := Aside0.mk (bT (by repeat (first | (with_reducible first | exact HB.out | apply bA | apply bN | apply b1) | exact HB.out)) hb); have n1_ := Aside0.mk (hbox); have n2_ := Aside0.mk ((by rw [hg]; exact (bZ (by repeat (first | (with_reducible first | exact HB.out | apply bA | apply bN | apply b1) | exact HB.out))) : w.heap.size ≤ gb288)); have n3_ := n2_; clear HB; have HB := n0_; have BK288 := n1_; have GW288 := n2_; have GE288 := n3_; clear n0_ n1_ n2_ n3_; clear hb hbox hg; have hcz43_0 : w42.cell? ⟨gb288, 0, none⟩ = some (.int .i64 a0_0) := (kC BK288.out 0).trans rfl; have hcz43_1 : w42.cell? ⟨gb288, 1, none⟩ = some (.int .i64 a0_1) := (kC BK288.out 1).trans rfl; have hfz43_0 := blk_frozen BK288.out 0; have hfz43_1 := blk_frozen BK288.out 1) | ((with_reducible refine gate_callee (f := 20) rfl ?_); refine goesL_ (some 6) rfl rfl Tryd.func20 (by kernel_rfl) rfl #[.agg #[.int .i64 a0_0, .int .i64 a0_1]] rfl (by (try simp only [List.map_toArray, List.map_cons, List.map_nil]); first | done | rfl | (simp only [List.length_drop, List.length_take]; rfl)) ?_; (with_reducible refine (cohousingref01_Valid.calls k a0_0 a0_1 false _ A2.out).mono ?_); rintro e w44 ⟨rfl, hb⟩; refine ⟨_, rfl, ?_⟩; have n0_ := Aside0.mk (kB (g := gb288) (o := .cells #[.int .i64 a0_0, .int .i64 a0_1] 24 (0, 0)) (by (with_reducible repeat (first | refine kN ?_ _ | refine kD ?_ | refine kA ?_ _)); exact BK288.out) hb); have n1_ := Aside0.mk (bT (by repeat (first | (with_reducible first | exact HB.out | apply bA | apply bN | apply b1 | refine bS ?_ GE288.out) | exact HB.out)) hb); clear BK288; clear HB; have BK288 := n0_; have HB := n1_; clear n0_ n1_; (try clear hb); (try clear hb2); (try clear hk); (try clear hi)))
  go_ret2
  exact ⟨by first | rfl | (simp [errW_none, errW_some] <;> rfl) | (simp [*, errW_none, errW_some] <;> rfl), by repeat (first | (with_reducible first | exact HB.out | apply bA | apply bN | apply b1 | refine bS ?_ GE288.out) | exact HB.out)⟩

/-! ### cohousingref01_Number: function 49 -/
mutual
def cohousingref01_Number.j0 : Nat → ByteArray → Bool → Option (Int × Bool)
 | 0, _, _ => none
 | k + 1, x0, x13 => if x13 = true then (some (0, false)) else (cohousingref01_Number.l0 k x0 0 0)
def cohousingref01_Number.l0 : Nat → ByteArray → Int → Int → Option (Int × Bool)
 | 0, _, _, _ => none
 | k + 1, x0, x4, x5 => if x5 < (x0.size : Int) then (if 0 ≤ x5 then (if (bt x0 x5) < 48 then (some (0, false)) else (if (bt x0 x5) > 57 then (some (0, false)) else (cohousingref01_Number.l0 k x0 (wrap64 ((wrap64 ((wrap64 (10 * x4)) + (wrap64 (bt x0 x5)))) - 48)) (wrap64 (x5 + 1))))) else (none)) else ((cohousingref01_Digits.f k x4).bind fun t293 => (some (x4, (t293.toList == x0.toList))))
end
def cohousingref01_Number.f (k : Nat) (a0 : ByteArray) : Option (Int × Bool) := if (a0.size : Int) < 1 then (cohousingref01_Number.j0 k a0 true) else (cohousingref01_Number.j0 k a0 (decide ((a0.size : Int) > 10)))
theorem cohousingref01_Number.mono_l : ∀ k, (∀ y0 y1, LeO (cohousingref01_Number.j0 k y0 y1) (cohousingref01_Number.j0 (k + 1) y0 y1)) ∧ (∀ y0 y1 y2, LeO (cohousingref01_Number.l0 k y0 y1 y2) (cohousingref01_Number.l0 (k + 1) y0 y1 y2))
 | 0 => ⟨fun _ _ r h => by simp [cohousingref01_Number.j0] at h, fun _ _ _ r h => by simp [cohousingref01_Number.l0] at h⟩
 | k + 1 => by
  obtain ⟨ih0, ih1⟩ := cohousingref01_Number.mono_l k
  refine ⟨?_, ?_⟩
  ·intro y0 y1
   unfold cohousingref01_Number.j0
   repeat' first
   | (with_reducible exact ih0 _ _)
   | (with_reducible exact ih1 _ _ _)
   | (with_reducible exact cohousingref01_Digits.mono _ _)
   | (with_reducible exact LeO.refl _)
   | (with_reducible exact LeO.none _)
   | (with_reducible refine LeO.ite ?_ ?_)
   | (with_reducible refine LeO.bind ?_ (fun _ => ?_))
   | exact ih0 _ _
   | exact ih1 _ _ _
   | exact cohousingref01_Digits.mono _ _
   | exact LeO.none _
   | refine LeO.ite ?_ ?_
   | refine LeO.bind ?_ (fun _ => ?_)
  ·intro y0 y1 y2
   unfold cohousingref01_Number.l0
   repeat' first
   | (with_reducible exact ih0 _ _)
   | (with_reducible exact ih1 _ _ _)
   | (with_reducible exact cohousingref01_Digits.mono _ _)
   | (with_reducible exact LeO.refl _)
   | (with_reducible exact LeO.none _)
   | (with_reducible refine LeO.ite ?_ ?_)
   | (with_reducible refine LeO.bind ?_ (fun _ => ?_))
   | exact ih0 _ _
   | exact ih1 _ _ _
   | exact cohousingref01_Digits.mono _ _
   | exact LeO.none _
   | refine LeO.ite ?_ ?_
   | refine LeO.bind ?_ (fun _ => ?_)
theorem cohousingref01_Number.mono : ∀ a0 k, LeO (cohousingref01_Number.f k a0) (cohousingref01_Number.f (k + 1) a0) := by
 intro a0 k
 obtain ⟨ih0, ih1⟩ := cohousingref01_Number.mono_l k
 unfold cohousingref01_Number.f
 repeat' first
   | (with_reducible exact ih0 _ _)
   | (with_reducible exact ih1 _ _ _)
   | (with_reducible exact cohousingref01_Digits.mono _ _)
   | (with_reducible exact LeO.refl _)
   | (with_reducible exact LeO.none _)
   | (with_reducible refine LeO.ite ?_ ?_)
   | (with_reducible refine LeO.bind ?_ (fun _ => ?_))
   | exact ih0 _ _
   | exact ih1 _ _ _
   | exact cohousingref01_Digits.mono _ _
   | exact LeO.none _
   | refine LeO.ite ?_ ?_
   | refine LeO.bind ?_ (fun _ => ?_)
set_option maxHeartbeats 8000000 in
set_option maxRecDepth 100000 in
theorem cohousingref01_Number.calls (k : Nat) (a0 : ByteArray) (r1 : Int) (r2 : Bool) (w : World) (h : cohousingref01_Number.f k a0 = some (r1, r2)) :
  Calls Tryd.prog 49 #[.string a0] w fun e w' => e = .returned (.tuple #[.int .i64 r1, .bool r2]) ∧ Below w.heap.size w w' := by
 have HB := Aside0.mk (Below.refl w.heap.size w)
 have H : (if (a0.size : Int) < 1 then (cohousingref01_Number.j0 k a0 true) else (cohousingref01_Number.j0 k a0 (decide ((a0.size : Int) > 10)))) = some (r1, r2) := h
 clear h
 have HC2 := Aside0.mk H
 clear H
 go_enter Tryd.func49, Tryd.ntmps49
 go_upto_region 1 with (fail)
 go_cut [13] (fun v13 wc => ∃ (kq : Nat) (x13_1 : Bool), v13 = .bool x13_1 ∧ Aside0 (cohousingref01_Number.j0 kq a0 x13_1 = some (r1, r2)) ∧ Aside0 (kq ≤ k) ∧ Aside0 (Below w.heap.size w wc))
 case first =>
  have H := HC2.out
  clear HC2
  by_cases c3 : (a0.size : Int) < 1
  ·rw [if_pos c3] at H
   have c3b0 : decide ((a0.size : Int) < 1) = true := dT c3
   have c3b1 : decide (a0.size < 1) = true := dT (by omega)
   clear c3
   (first | rw [c3b0] | (simp only [i64_w, i32_w]; rw [c3b0]) | skip)
   have H' := Aside0.mk H
   clear H
   go_wp2
   go_meet
   case rel => exact ⟨_, (true), (by first | rfl | (simp; done) | (simp [*]; done)), H', ⟨by first | omega | exact Nat.le_refl _⟩, ⟨by repeat (first | (with_reducible first | exact HB.out | apply bA | apply bN | apply b1) | exact HB.out)⟩⟩
  ·rw [if_neg c3] at H
   have c3b0 : decide ((a0.size : Int) < 1) = false := dF c3
   have c3b1 : decide (a0.size < 1) = false := dF (by omega)
   clear c3
   (first | rw [c3b0] | (simp only [i64_w, i32_w]; rw [c3b0]) | skip)
   have H' := Aside0.mk H
   clear H
   go_wp2
   go_meet
   case rel => exact ⟨_, (decide ((a0.size : Int) > 10)), (by first | rfl | (simp; done) | (simp [*]; done)), H', ⟨by first | omega | exact Nat.le_refl _⟩, ⟨by repeat (first | (with_reducible first | exact HB.out | apply bA | apply bN | apply b1) | exact HB.out)⟩⟩
 case rest =>
  clear HC2
  try clear p2
  try clear c3
  try clear c3b0
  try clear c3b1
  obtain ⟨kq, x13_1, rfl, HA, HJ1, HB⟩ := hcut
  cases kq with
  | zero => exact absurd HA.out (by simp [cohousingref01_Number.j0])
  | succ kj1 =>
   have H := HA.out
   clear HA
   simp only [cohousingref01_Number.j0] at H
   by_cases c4 : x13_1 = true
   ·subst c4
    have H1 : (some (0, false)) = some (r1, r2) := by rw [if_pos rfl] at H; exact H
    clear H
    have H := H1
    clear H1
    simp only [Option.some.injEq, Prod.mk.injEq] at H
    obtain ⟨rfl, rfl⟩ := H
    go_wp2
    go_ret2
    exact ⟨by first | rfl | (simp [errW_none, errW_some] <;> rfl) | (simp [*, errW_none, errW_some] <;> rfl), by repeat (first | (with_reducible first | exact HB.out | apply bA | apply bN | apply b1) | exact HB.out)⟩
   ·replace c4 := Bool.eq_false_iff.mpr c4
    subst c4
    have H1 : (cohousingref01_Number.l0 kj1 a0 0 0) = some (r1, r2) := by rw [if_neg (show ¬ (false = true) by decide)] at H; exact H
    clear H
    have H := H1
    clear H1
    have H' := Aside0.mk H
    clear H
    go_wp2
    go_loopg [4, 5] kj1 (fun kq v4 v5 w' => ∃ (x4_2 : Int) (x5_2 : Int), v4 = .int .i64 x4_2 ∧ v5 = .int .i64 x5_2 ∧ Aside0 (cohousingref01_Number.l0 kq a0 x4_2 x5_2 = some (r1, r2)) ∧ Aside0 (kq ≤ kj1) ∧ Aside0 (Below w.heap.size w w'))
    case atStart => exact ⟨(0), (0), (by first | rfl | (simp; done) | (simp [*]; done)), (by first | rfl | (simp; done) | (simp [*]; done)), H', ⟨Nat.le_refl _⟩, ⟨by repeat (first | (with_reducible first | exact HB.out | apply bA | apply bN | apply b1) | exact HB.out)⟩⟩
    case round =>
     clear H'
     try clear p2
     try clear c3
     try clear c3b0
     try clear c3b1
     try clear c4
     try clear p2
     obtain ⟨x4_2, x5_2, rfl, rfl, HA, HK2, HB⟩ := hrel
     cases gk with
     | zero => exact absurd HA.out (by simp [cohousingref01_Number.l0])
     | succ k2 =>
      have H := HA.out
      clear HA
      simp only [cohousingref01_Number.l0] at H
      by_cases c5 : x5_2 < (a0.size : Int)
      ·rw [if_pos c5] at H
       have c5b0 : decide (x5_2 < (a0.size : Int)) = true := dT c5
       clear c5
       by_cases c6 : 0 ≤ x5_2
       ·rw [if_pos c6] at H
        have c6b0 : decide (0 ≤ x5_2) = true := dT c6
        clear c6
        by_cases c8 : (bt a0 x5_2) < 48
        ·rw [if_pos c8] at H
         have c8b0 : decide ((bt a0 x5_2) < 48) = true := dT c8
         clear c8
         simp only [Option.some.injEq, Prod.mk.injEq] at H
         obtain ⟨rfl, rfl⟩ := H
         have p7 : 0 ≤ (x5_2 : Int) := oT (by first | (with_reducible assumption) | assumption)
         have q7 : x5_2 < (a0.size : Int) := oT (by first | (with_reducible assumption) | assumption)
         have hx7 := bt_at a0 x5_2
         replace p7 := eq_true p7
         replace q7 := eq_true q7
         go_wp2
         go_ret2
         exact ⟨by first | rfl | (simp [errW_none, errW_some] <;> rfl) | (simp [*, errW_none, errW_some] <;> rfl), by repeat (first | (with_reducible first | exact HB.out | apply bA | apply bN | apply b1) | exact HB.out)⟩
        ·rw [if_neg c8] at H
         have c8b0 : decide ((bt a0 x5_2) < 48) = false := dF c8
         clear c8
         by_cases c10 : (bt a0 x5_2) > 57
         ·rw [if_pos c10] at H
          have c10b0 : decide (57 < (bt a0 x5_2)) = true := dT c10
          clear c10
          simp only [Option.some.injEq, Prod.mk.injEq] at H
          obtain ⟨rfl, rfl⟩ := H
          have p7 : 0 ≤ (x5_2 : Int) := oT (by first | (with_reducible assumption) | assumption)
          have q7 : x5_2 < (a0.size : Int) := oT (by first | (with_reducible assumption) | assumption)
          have hx7 := bt_at a0 x5_2
          replace p7 := eq_true p7
          replace q7 := eq_true q7
          have p9 : 0 ≤ (x5_2 : Int) := oT (by first | (with_reducible assumption) | assumption)
          have q9 : x5_2 < (a0.size : Int) := oT (by first | (with_reducible assumption) | assumption)
          have hx9 := bt_at a0 x5_2
          replace p9 := eq_true p9
          replace q9 := eq_true q9
          go_wp2
          go_ret2
          exact ⟨by first | rfl | (simp [errW_none, errW_some] <;> rfl) | (simp [*, errW_none, errW_some] <;> rfl), by repeat (first | (with_reducible first | exact HB.out | apply bA | apply bN | apply b1) | exact HB.out)⟩
         ·rw [if_neg c10] at H
          have c10b0 : decide (57 < (bt a0 x5_2)) = false := dF c10
          clear c10
          have H' := Aside0.mk H
          clear H
          have p7 : 0 ≤ (x5_2 : Int) := oT (by first | (with_reducible assumption) | assumption)
          have q7 : x5_2 < (a0.size : Int) := oT (by first | (with_reducible assumption) | assumption)
          have hx7 := bt_at a0 x5_2
          replace p7 := eq_true p7
          replace q7 := eq_true q7
          have p9 : 0 ≤ (x5_2 : Int) := oT (by first | (with_reducible assumption) | assumption)
          have q9 : x5_2 < (a0.size : Int) := oT (by first | (with_reducible assumption) | assumption)
          have hx9 := bt_at a0 x5_2
          replace p9 := eq_true p9
          replace q9 := eq_true q9
          have p11 : 0 ≤ (x5_2 : Int) := oT (by first | (with_reducible assumption) | assumption)
          have q11 : x5_2 < (a0.size : Int) := oT (by first | (with_reducible assumption) | assumption)
          have hx11 := bt_at a0 x5_2
          replace p11 := eq_true p11
          replace q11 := eq_true q11
          go_wp2
          go_roundg k2
          case measure => have := HJ1.out; have := HK2.out; omega
          case rel => exact ⟨(wrap64 ((wrap64 ((wrap64 (10 * x4_2)) + (wrap64 (bt a0 x5_2)))) - 48)), (wrap64 (x5_2 + 1)), (by first | rfl | (simp; done) | (simp [*]; done)), (by first | rfl | (simp; done) | (simp [*]; done)), H', ⟨by have := HJ1.out; have := HK2.out; omega⟩, ⟨by repeat (first | (with_reducible first | exact HB.out | apply bA | apply bN | apply b1) | exact HB.out)⟩⟩
       ·rw [if_neg c6] at H
        exact absurd H (by simp)
      ·rw [if_neg c5] at H
       have c5b0 : decide (x5_2 < (a0.size : Int)) = false := dF c5
       clear c5
       replace H := Option.bind_eq_some_iff.mp H
       obtain ⟨t293, A120, H⟩ := H
       replace H : (some (x4_2, (t293.toList == a0.toList))) = some (r1, r2) := H
       have A12 := Aside0.mk A120
       clear A120
       simp only [Option.some.injEq, Prod.mk.injEq] at H
       obtain ⟨rfl, rfl⟩ := H
       go_wp2_with (first | ((with_reducible refine gate_callee (f := 48) rfl ?_); refine goesL_ (some 40) rfl rfl Tryd.func48 (by kernel_rfl) rfl #[.int .i64 x4_2] rfl (by (try simp only [List.map_toArray, List.map_cons, List.map_nil]); first | done | rfl | (simp only [List.length_drop, List.length_take]; rfl)) ?_; (with_reducible refine (cohousingref01_Digits.calls k2 x4_2 t293 _ A12.out).mono ?_); rintro e w13 ⟨rfl, hb⟩; refine ⟨_, rfl, ?_⟩; have n0_ := Aside0.mk (bT (by repeat (first | (with_reducible first | exact HB.out | apply bA | apply bN | apply b1) | exact HB.out)) hb); clear HB; have HB := n0_; clear n0_; (try clear hb); (try clear hb2); (try clear hk); (try clear hi)))
       go_ret2
       exact ⟨by first | rfl | (simp [errW_none, errW_some] <;> rfl) | (simp [*, errW_none, errW_some] <;> rfl), by repeat (first | (with_reducible first | exact HB.out | apply bA | apply bN | apply b1) | exact HB.out)⟩

end Go.Proofs.YteifflpjhlgpjaaDoor.X
