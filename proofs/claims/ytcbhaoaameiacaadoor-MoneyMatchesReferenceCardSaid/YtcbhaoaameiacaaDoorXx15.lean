-- Written by a program of mine (wip/tools/xprint.py) over the kit's print.py: printed functions and hand-proved ones side by side.
import Derived.Test.YtcbhaoaameiacaaDoorXx0
import Derived.Test.YtcbhaoaameiacaaDoorXx2
import Derived.Test.YtcbhaoaameiacaaDoorXx7
import Derived.Test.YtcbhaoaameiacaaDoorXx8
import Derived.Test.YtcbhaoaameiacaaDoorXx9
import Derived.Test.YtcbhaoaameiacaaDoorXx11
import Derived.Test.YtcbhaoaameiacaaDoorXx12
import Derived.Test.YtcbhaoaameiacaaDoorXx13
import Derived.Test.YtcbhaoaameiacaaDoorXx14
namespace Go.Proofs.YtcbhaoaameiacaaDoor.X
open Go.RowKit Go.Proofs.YtcbhaoaameiacaaDoorW.PrintWords Go.Proofs.YtcbhaoaameiacaaDoorW.PrintLast Go.Proofs.YtcbhaoaameiacaaDoorW.PrintMore
attribute [local go_sem] max2_int min2_int max_two min_two max_three min_three max_four min_four   -- for this text's walks alone
set_option linter.unusedVariables false
set_option linter.unusedSimpArgs false

/-! ### cohousinglaw02_MoneyMatchesReference: function 8 -/
-- by hand: cohousing/cohousinglaw02.MoneyMatchesReference
theorem few_C (A : Option Addr) (c : Nat) (l : List Int) (hc : l.length ≤ c) (w : World) :
    Calls Tryd.prog 18 #[.slice A l.length c] w fun e w' => e = .returned (.slice A (l.take 100).length c) ∧ Drawn0 w w' := by
  obtain ⟨ji, hji⟩ : ∃ j_ : Int, (if 100 < (l.length : Int) then 100 else (l.length : Int)) = j_ := ⟨_, rfl⟩
  have h0 : 0 ≤ ji := by rw [← hji]; split <;> omega
  have h1 : ji ≤ (l.length : Int) := by rw [← hji]; split <;> omega
  have hl : (l.take 100).length = ji.toNat := by rw [List.length_take]; omega
  have c0 : decide (0 ≤ ji) = true := decide_eq_true h0
  have c1 : decide (ji ≤ (l.length : Int)) = true := decide_eq_true h1
  obtain ⟨i06, hi06, _, hsz6, _⟩ := info_parts info3
  have hcut := cut_to (P := Tryd.prog) 34 3 .i64 Tryd.underlying34 hi06 A l.length c ji h0 h1 hc
  rw [← hl] at hcut
  clear hl hi06 hsz6
  replace h0 := eq_true h0
  replace h1 := eq_true h1
  go_enter Tryd.func18, Tryd.ntmps18
  go_wp2
  go_ret
  exact ⟨by first | rfl | (simp [*]; done), by repeat (first | exact Drawn0.refl _ | apply Drawn0.step)⟩
theorem C_cut (w : World) (A : Option Addr) (l : List Int) (h : Kd.C (Kd.int .i64) w A l.length l) (m : Nat) : Kd.C (Kd.int .i64) w A (l.take m).length (l.take m) := by
  by_cases hm : m ≤ l.length
  · exact Kd.C_take h hm
  · rw [List.take_of_length_le (by omega)]; exact h
/-- What both sides answer. -/
structure LawX (k : Nat) (l0 : List Int) (c n d : Int) (l3 : List Int) (s : ByteArray) (x1 x2 y1 y2 z2 u2 q1 q2 : Int) (z1 : List Int) (u1 : ByteArray) : Prop where
  head : cohousinglaw02_head.f k = some true
  add : money_Add.f k (l0.take 100) = some (x1, x2)
  radd : cohousingref02_Add.f k (l0.take 100) = some (x1, x2)
  scale : money_Scale.f k c n d = some (y1, y2)
  rscale : cohousingref02_Scale.f k c n d = some (y1, y2)
  split : money_Split.f c (l3.take 100) = some (z1, z2)
  rsplit : cohousingref02_Split.f k c (l3.take 100) = some (z1, z2)
  same : cohousingref02_Same.f k z1 z1 = some true
  text : money_Text.f c = some (u1, u2)
  rtext : cohousingref02_Text.f k c = some (u1, u2)
  parse : money_Parse.f (s.extract 0 (mn (s.size : Int) 100).toNat) = some (q1, q2)
  rparse : cohousingref02_Parse.f k (s.extract 0 (mn (s.size : Int) 100).toNat) = some (q1, q2)
noncomputable def cohousinglaw02_MoneyMatchesReference.f (k : Nat) (l0 : List Int) (c n d : Int) (l3 : List Int) (s : ByteArray) : Option Bool :=
  @ite _ (∃ x1 x2 y1 y2 z2 u2 q1 q2 z1 u1, LawX k l0 c n d l3 s x1 x2 y1 y2 z2 u2 q1 q2 z1 u1) (Classical.propDecidable _) (some true) none
set_option maxHeartbeats 8000000 in
set_option maxRecDepth 100000 in
theorem cohousinglaw02_MoneyMatchesReference.calls (k : Nat) (A0 : Option Addr) (c0 : Nat) (l0 : List Int) (c : Int) (n : Int) (d : Int) (A3 : Option Addr) (c3 : Nat) (l3 : List Int) (s : ByteArray) (r : Bool) (w : World) (hr0 : Kd.C (Kd.int .i64) w A0 l0.length l0) (hc0 : l0.length ≤ c0) (hr3 : Kd.C (Kd.int .i64) w A3 l3.length l3) (hc3 : l3.length ≤ c3) (hG : GL w) (h : cohousinglaw02_MoneyMatchesReference.f k l0 c n d l3 s = some r) :
    Calls Tryd.prog 8 #[.slice A0 l0.length c0, .int .i64 c, .agg #[.int .i64 n, .int .i64 d], .slice A3 l3.length c3, .string s] w fun e w' => e = .returned (.bool r) ∧ Below w.heap.size w w' := by
  unfold cohousinglaw02_MoneyMatchesReference.f at h
  split at h
  case isFalse => cases h
  rename_i hx
  obtain rfl := Option.some.inj h
  obtain ⟨x1, x2, y1, y2, z2, u2, q1, q2, z1, u1, X⟩ := hx
  clear h
  have hu29 := Tryd.underlying29
  have HG := Aside0.mk hG
  have ht0 := C_cut w A0 l0 hr0 100
  have ht3 := C_cut w A3 l3 hr3 100
  have hd0 : (l0.take 100).length ≤ c0 := Nat.le_trans (by rw [List.length_take]; omega) hc0
  have hd3 : (l3.take 100).length ≤ c3 := Nat.le_trans (by rw [List.length_take]; omega) hc3
  have hf0 := few_C A0 c0 l0 hc0
  have hf3 := few_C A3 c3 l3 hc3
  obtain ⟨x_1, x_2, x_3, x_4, x_5, x_6, x_7, x_8, x_9, x_10, x_11, x_12⟩ := X
  generalize l0.take 100 = m0 at *
  generalize l3.take 100 = m3 at *
  have HT0 := Aside0.mk ht0
  have HT3 := Aside0.mk ht3
  have HD0 := Aside0.mk hd0
  have HD3 := Aside0.mk hd3
  have HF0 := Aside0.mk hf0
  have HF3 := Aside0.mk hf3
  have HB := Aside0.mk (Below.refl w.heap.size w)
  obtain ⟨ji, hji⟩ : ∃ j_ : Int, mn (s.size : Int) 100 = j_ := ⟨_, rfl⟩
  rw [hji] at x_11 x_12
  have HX1 := Aside0.mk x_1
  have HX2 := Aside0.mk x_2
  have HX3 := Aside0.mk x_3
  have HX4 := Aside0.mk x_4
  have HX5 := Aside0.mk x_5
  have HX6 := Aside0.mk x_6
  have HX7 := Aside0.mk x_7
  have HX8 := Aside0.mk x_8
  have HX9 := Aside0.mk x_9
  have HX10 := Aside0.mk x_10
  have HX11 := Aside0.mk x_11
  have HX12 := Aside0.mk x_12
  have hji_ : (if 100 < (s.size : Int) then 100 else (s.size : Int)) = ji := hji
  have h0 : 0 ≤ ji := by rw [← hji_]; split <;> omega
  have h1 : ji ≤ (s.size : Int) := by rw [← hji_]; split <;> omega
  have b0 : decide (0 ≤ ji) = true := decide_eq_true h0
  have b1 : decide (ji ≤ (s.size : Int)) = true := decide_eq_true h1
  replace h0 := eq_true h0
  replace h1 := eq_true h1
  clear hr0 hr3 hc0 hc3 hG ht0 ht3 hd0 hd3 hf0 hf3 x_1 x_2 x_3 x_4 x_5 x_6 x_7 x_8 x_9 x_10 x_11 x_12
  go_enter Tryd.func8, Tryd.ntmps8
  go_wp2_with (first | ((with_reducible refine gate_dst (N := 7) rfl ?_); refine box_event ?hg (N := 7) ?hd (cs := #[.int .i64 n, .int .i64 d]) (t := 29) ?hr ?_; (case hd => rfl); (case hg => rfl); (case hr => first | (go_simp; done) | (go_simp; rfl)); intro gb hg w1 hbox hb; have m0_ := Aside0.mk (below_step (by repeat (first | (with_reducible first | exact HB.out | apply below_alloc | apply pw_below_drewN | apply below_drew1) | exact HB.out)) hb); have m1_ := Aside0.mk (hbox); clear HB; have HB := m0_; have BK := m1_; clear m0_ m1_; (try clear hb); (try clear hbox); (try clear hg); (try clear ho)) | ((with_reducible refine gate_callee (f := 10) rfl ?_); refine goesL_ (some 24) rfl rfl Tryd.func10 (by kernel_rfl) rfl #[] rfl (by (try simp only [List.map_toArray, List.map_cons, List.map_nil]); first | done | rfl) ?_; (with_reducible refine (cohousinglaw02_head.calls k true _ ?side1 HX1.out).mono ?_); (case side1 => exact GL.below HG.out (by repeat (first | (with_reducible first | exact HB.out | apply below_alloc | apply pw_below_drewN | apply below_drew1) | exact HB.out))); rintro e wd24 ⟨rfl, hb⟩; refine ⟨_, rfl, ?_⟩; have m0_ := Aside0.mk (below_step (by repeat (first | (with_reducible first | exact HB.out | apply below_alloc | apply pw_below_drewN | apply below_drew1) | exact HB.out)) hb); have m1_ := Aside0.mk (blk_below (g := gb) (o := (.cells #[.int .i64 n, .int .i64 d] 29 (0, 0))) (by (with_reducible repeat (first | refine blk_drewN ?_ _ | refine blk_drew ?_ | refine blk_alloc ?_ _)); exact BK.out) hb); clear HB BK; have HB := m0_; have BK := m1_; clear m0_ m1_; (try clear hb); (try clear hbox); (try clear hg); (try clear ho)) | ((with_reducible refine gate_callee (f := 18) rfl ?_); refine goesL_ (some 26) rfl rfl Tryd.func18 (by kernel_rfl) rfl #[.slice A0 l0.length c0] rfl (by (try simp only [List.map_toArray, List.map_cons, List.map_nil]); first | done | rfl) ?_; (with_reducible refine (HF0.out _).mono ?_); rintro e wd26 ⟨rfl, ⟨nd, rfl⟩⟩; refine ⟨_, rfl, ?_⟩) | ((with_reducible refine gate_callee (f := 18) rfl ?_); refine goesL_ (some 28) rfl rfl Tryd.func18 (by kernel_rfl) rfl #[.slice A3 l3.length c3] rfl (by (try simp only [List.map_toArray, List.map_cons, List.map_nil]); first | done | rfl) ?_; (with_reducible refine (HF3.out _).mono ?_); rintro e wd28 ⟨rfl, ⟨nd, rfl⟩⟩; refine ⟨_, rfl, ?_⟩) | ((with_reducible refine gate_callee (f := 11) rfl ?_); refine goesL_ (some 36) rfl rfl Tryd.func11 (by kernel_rfl) rfl #[.slice A0 m0.length c0] rfl (by (try simp only [List.map_toArray, List.map_cons, List.map_nil]); first | done | rfl) ?_; (with_reducible refine (money_Add.calls k A0 c0 m0 x1 x2 _ ?side1 HD0.out HX2.out).mono ?_); (case side1 => repeat (first | exact Kd.C_below HT0.out HB.out | (with_reducible refine Kd.C_alloc ?_ _) | (with_reducible refine Kd.C_drewN ?_ _) | (with_reducible refine Kd.C_drew ?_))); rintro e wd36 ⟨rfl, ⟨nd, rfl⟩⟩; refine ⟨_, rfl, ?_⟩) | ((with_reducible refine gate_callee (f := 19) rfl ?_); refine goesL_ (some 41) rfl rfl Tryd.func19 (by kernel_rfl) rfl #[.slice A0 m0.length c0] rfl (by (try simp only [List.map_toArray, List.map_cons, List.map_nil]); first | done | rfl) ?_; (with_reducible refine (cohousingref02_Add.calls k A0 c0 m0 x1 x2 _ ?side1 HD0.out HX3.out).mono ?_); (case side1 => repeat (first | exact Kd.C_below HT0.out HB.out | (with_reducible refine Kd.C_alloc ?_ _) | (with_reducible refine Kd.C_drewN ?_ _) | (with_reducible refine Kd.C_drew ?_))); rintro e wd41 ⟨rfl, ⟨nd, rfl⟩⟩; refine ⟨_, rfl, ?_⟩; have hcz1_0 : wd24.cell? ⟨gb, 0, none⟩ = some (.int .i64 n) := (blk_cell BK.out 0).trans rfl; have hcz1_1 : wd24.cell? ⟨gb, 1, none⟩ = some (.int .i64 d) := (blk_cell BK.out 1).trans rfl; have hfz1_0 := blk_frozen BK.out 0; have hfz1_1 := blk_frozen BK.out 1) | ((with_reducible refine gate_callee (f := 14) rfl ?_); refine goesL_ (some 58) rfl rfl Tryd.func14 (by kernel_rfl) rfl #[.int .i64 c, .agg #[.int .i64 n, .int .i64 d]] rfl (by (try simp only [List.map_toArray, List.map_cons, List.map_nil]); first | done | rfl) ?_; (with_reducible refine (money_Scale.calls k c n d y1 y2 _ HX4.out).mono ?_); rintro e wd58 ⟨rfl, hb⟩; refine ⟨_, rfl, ?_⟩; have m0_ := Aside0.mk (below_step (by repeat (first | (with_reducible first | exact HB.out | apply below_alloc | apply pw_below_drewN | apply below_drew1) | exact HB.out)) hb); have m1_ := Aside0.mk (blk_below (g := gb) (o := (.cells #[.int .i64 n, .int .i64 d] 29 (0, 0))) (by (with_reducible repeat (first | refine blk_drewN ?_ _ | refine blk_drew ?_ | refine blk_alloc ?_ _)); exact BK.out) hb); clear HB BK; have HB := m0_; have BK := m1_; clear m0_ m1_; (try clear hb); (try clear hbox); (try clear hg); (try clear ho); have hcz2_0 : wd58.cell? ⟨gb, 0, none⟩ = some (.int .i64 n) := (blk_cell BK.out 0).trans rfl; have hcz2_1 : wd58.cell? ⟨gb, 1, none⟩ = some (.int .i64 d) := (blk_cell BK.out 1).trans rfl; have hfz2_0 := blk_frozen BK.out 0; have hfz2_1 := blk_frozen BK.out 1) | ((with_reducible refine gate_callee (f := 20) rfl ?_); refine goesL_ (some 64) rfl rfl Tryd.func20 (by kernel_rfl) rfl #[.int .i64 c, .agg #[.int .i64 n, .int .i64 d]] rfl (by (try simp only [List.map_toArray, List.map_cons, List.map_nil]); first | done | rfl) ?_; (with_reducible refine (cohousingref02_Scale.calls k c n d y1 y2 _ HX5.out).mono ?_); rintro e wd64 ⟨rfl, hb⟩; refine ⟨_, rfl, ?_⟩; have m0_ := Aside0.mk (below_step (by repeat (first | (with_reducible first | exact HB.out | apply below_alloc | apply pw_below_drewN | apply below_drew1) | exact HB.out)) hb); have m1_ := Aside0.mk (blk_below (g := gb) (o := (.cells #[.int .i64 n, .int .i64 d] 29 (0, 0))) (by (with_reducible repeat (first | refine blk_drewN ?_ _ | refine blk_drew ?_ | refine blk_alloc ?_ _)); exact BK.out) hb); clear HB BK; have HB := m0_; have BK := m1_; clear m0_ m1_; (try clear hb); (try clear hbox); (try clear hg); (try clear ho)) | ((with_reducible refine gate_callee (f := 15) rfl ?_); refine goesL_ (some 81) rfl rfl Tryd.func15 (by kernel_rfl) rfl #[.int .i64 c, .slice A3 m3.length c3] rfl (by (try simp only [List.map_toArray, List.map_cons, List.map_nil]); first | done | rfl) ?_; (with_reducible refine (money_Split.calls c A3 c3 m3 z1 z2 _ ?side1 HD3.out HX6.out).mono ?_); (case side1 => repeat (first | exact Kd.C_below HT3.out HB.out | (with_reducible refine Kd.C_alloc ?_ _) | (with_reducible refine Kd.C_drewN ?_ _) | (with_reducible refine Kd.C_drew ?_))); rintro e wd81 ⟨va, rfl, ho, hb⟩; refine ⟨_, rfl, ?_⟩; have m0_ := Aside0.mk (below_step (by repeat (first | (with_reducible first | exact HB.out | apply below_alloc | apply pw_below_drewN | apply below_drew1) | exact HB.out)) hb); have m1_ := Aside0.mk (blk_below (g := gb) (o := (.cells #[.int .i64 n, .int .i64 d] 29 (0, 0))) (by (with_reducible repeat (first | refine blk_drewN ?_ _ | refine blk_drew ?_ | refine blk_alloc ?_ _)); exact BK.out) hb); have m2_ := Aside0.mk (ho); clear HB BK; have HB := m0_; have BK := m1_; have HOa := m2_; clear m0_ m1_ m2_; (try clear hb); (try clear hbox); (try clear hg); (try clear ho)) | ((with_reducible refine gate_callee (f := 21) rfl ?_); refine goesL_ (some 87) rfl rfl Tryd.func21 (by kernel_rfl) rfl #[.int .i64 c, .slice A3 m3.length c3] rfl (by (try simp only [List.map_toArray, List.map_cons, List.map_nil]); first | done | rfl) ?_; (with_reducible refine (cohousingref02_Split.calls k c A3 c3 m3 z1 z2 _ ?side1 HD3.out HX7.out).mono ?_); (case side1 => repeat (first | exact Kd.C_below HT3.out HB.out | (with_reducible refine Kd.C_alloc ?_ _) | (with_reducible refine Kd.C_drewN ?_ _) | (with_reducible refine Kd.C_drew ?_))); rintro e wd87 ⟨vb, rfl, ho, hb⟩; refine ⟨_, rfl, ?_⟩; have m0_ := Aside0.mk (Kd.R_below (by (with_reducible repeat (first | apply Kd.R_alloc | apply Kd.R_drewN | apply Kd.R_drew)); exact HOa.out) hb); have m1_ := Aside0.mk (below_step (by repeat (first | (with_reducible first | exact HB.out | apply below_alloc | apply pw_below_drewN | apply below_drew1) | exact HB.out)) hb); have m2_ := Aside0.mk (blk_below (g := gb) (o := (.cells #[.int .i64 n, .int .i64 d] 29 (0, 0))) (by (with_reducible repeat (first | refine blk_drewN ?_ _ | refine blk_drew ?_ | refine blk_alloc ?_ _)); exact BK.out) hb); have m3_ := Aside0.mk (ho); clear HOa HB BK; have HOa := m0_; have HB := m1_; have BK := m2_; have HOb := m3_; clear m0_ m1_ m2_ m3_; (try clear hb); (try clear hbox); (try clear hg); (try clear ho); obtain ⟨Aa, ca, ea⟩ := Kd.R_slice HOa.out; subst ea; obtain ⟨Ab, cb, eb⟩ := Kd.R_slice HOb.out; subst eb) | (go_at_call 22; (with_reducible refine (cohousingref02_Same.calls k _ _ z1 _ _ z1 true _ ?side1 ?side2 ?side3 ?side4 HX8.out).mono ?_); (case side1 => repeat (first | exact (Kd.R_reads' HOa.out).2.2 | (with_reducible refine Kd.C_alloc ?_ _) | (with_reducible refine Kd.C_drewN ?_ _) | (with_reducible refine Kd.C_drew ?_))); (case side2 => exact (Kd.R_reads' HOa.out).2.1); (case side3 => repeat (first | exact (Kd.R_reads' HOb.out).2.2 | (with_reducible refine Kd.C_alloc ?_ _) | (with_reducible refine Kd.C_drewN ?_ _) | (with_reducible refine Kd.C_drew ?_))); (case side4 => exact (Kd.R_reads' HOb.out).2.1); rintro e w' ⟨rfl, ⟨nd, rfl⟩⟩) | ((with_reducible refine gate_callee (f := 23) rfl ?_); refine goesL_ (some 103) rfl rfl Tryd.func23 (by kernel_rfl) rfl #[.int .i64 c] rfl (by (try simp only [List.map_toArray, List.map_cons, List.map_nil]); first | done | rfl) ?_; (with_reducible refine (money_Text.calls c u1 u2 _ ?side1 HX9.out).mono ?_); (case side1 => exact GL.below HG.out (by repeat (first | (with_reducible first | exact HB.out | apply below_alloc | apply pw_below_drewN | apply below_drew1) | exact HB.out))); rintro e wd103 ⟨rfl, hb⟩; refine ⟨_, rfl, ?_⟩; have m0_ := Aside0.mk (below_step (by repeat (first | (with_reducible first | exact HB.out | apply below_alloc | apply pw_below_drewN | apply below_drew1) | exact HB.out)) hb); have m1_ := Aside0.mk (blk_below (g := gb) (o := (.cells #[.int .i64 n, .int .i64 d] 29 (0, 0))) (by (with_reducible repeat (first | refine blk_drewN ?_ _ | refine blk_drew ?_ | refine blk_alloc ?_ _)); exact BK.out) hb); clear HB BK; have HB := m0_; have BK := m1_; clear m0_ m1_; (try clear hb); (try clear hbox); (try clear hg); (try clear ho)) | ((with_reducible refine gate_callee (f := 24) rfl ?_); refine goesL_ (some 108) rfl rfl Tryd.func24 (by kernel_rfl) rfl #[.int .i64 c] rfl (by (try simp only [List.map_toArray, List.map_cons, List.map_nil]); first | done | rfl) ?_; (with_reducible refine (cohousingref02_Text.calls k c u1 u2 _ HX10.out).mono ?_); rintro e wd108 ⟨rfl, hb⟩; refine ⟨_, rfl, ?_⟩; have m0_ := Aside0.mk (below_step (by repeat (first | (with_reducible first | exact HB.out | apply below_alloc | apply pw_below_drewN | apply below_drew1) | exact HB.out)) hb); have m1_ := Aside0.mk (blk_below (g := gb) (o := (.cells #[.int .i64 n, .int .i64 d] 29 (0, 0))) (by (with_reducible repeat (first | refine blk_drewN ?_ _ | refine blk_drew ?_ | refine blk_alloc ?_ _)); exact BK.out) hb); clear HB BK; have HB := m0_; have BK := m1_; clear m0_ m1_; (try clear hb); (try clear hbox); (try clear hg); (try clear ho)) | ((with_reducible refine gate_callee (f := 25) rfl ?_); refine goesL_ (some 124) rfl rfl Tryd.func25 (by kernel_rfl) rfl #[.string (s.extract 0 (ji : Int).toNat)] rfl (by (try simp only [List.map_toArray, List.map_cons, List.map_nil]); first | done | rfl) ?_; (with_reducible refine (money_Parse.calls (s.extract 0 (ji : Int).toNat) q1 q2 _ HX11.out).mono ?_); rintro e wd124 ⟨rfl, hb⟩; refine ⟨_, rfl, ?_⟩; have m0_ := Aside0.mk (below_step (by repeat (first | (with_reducible first | exact HB.out | apply below_alloc | apply pw_below_drewN | apply below_drew1) | exact HB.out)) hb); have m1_ := Aside0.mk (blk_below (g := gb) (o := (.cells #[.int .i64 n, .int .i64 d] 29 (0, 0))) (by (with_reducible repeat (first | refine blk_drewN ?_ _ | refine blk_drew ?_ | refine blk_alloc ?_ _)); exact BK.out) hb); clear HB BK; have HB := m0_; have BK := m1_; clear m0_ m1_; (try clear hb); (try clear hbox); (try clear hg); (try clear ho)) | ((with_reducible refine gate_callee (f := 26) rfl ?_); refine goesL_ (some 129) rfl rfl Tryd.func26 (by kernel_rfl) rfl #[.string (s.extract 0 (ji : Int).toNat)] rfl (by (try simp only [List.map_toArray, List.map_cons, List.map_nil]); first | done | rfl) ?_; (with_reducible refine (cohousingref02_Parse.calls k (s.extract 0 (ji : Int).toNat) q1 q2 _ HX12.out).mono ?_); rintro e wd129 ⟨rfl, ⟨nd, rfl⟩⟩; refine ⟨_, rfl, ?_⟩))
  go_ret
  exact ⟨by first | rfl | (simp [*]; done), (by repeat (first | (with_reducible first | exact HB.out | apply below_alloc | apply pw_below_drewN | apply below_drew1) | exact HB.out))⟩

end Go.Proofs.YtcbhaoaameiacaaDoor.X
