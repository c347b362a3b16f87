-- Written by a program of mine (wip/tools/xprint.py) over the kit's print.py: printed functions and hand-proved ones side by side.
import Derived.Test.YtcbhaoaameiacaaDoorXx0
import Derived.Test.YtcbhaoaameiacaaDoorXx8
namespace Go.Proofs.YtcbhaoaameiacaaDoor.X
open Go.RowKit Go.Proofs.YtcbhaoaameiacaaDoorW.PrintWords Go.Proofs.YtcbhaoaameiacaaDoorW.PrintLast Go.Proofs.YtcbhaoaameiacaaDoorW.PrintMore
attribute [local go_sem] max2_int min2_int max_two min_two max_three min_three max_four min_four   -- for this text's walks alone
set_option linter.unusedVariables false
set_option linter.unusedSimpArgs false

/-! ### cohousingref02_digits: function 34 -/
def cohousingref02_digits.l0 : Nat → Int → ByteArray → Option (ByteArray)
  | 0, _, _ => none
  | k + 1, x0, x3 => if x0 ≥ 10 then ((some (([(wrap64 (48 + (Int.tmod (wrap64 (Int.tdiv x0 10)) 10))) % 256] : List Int) : List Int)).bind fun y207 => (if (strOfNums y207).size + x3.size ≤ 9223372036854775807 then (cohousingref02_digits.l0 k (wrap64 (Int.tdiv x0 10)) ((strOfNums y207) ++ x3)) else (none))) else (some x3)
def cohousingref02_digits.f (k : Nat) (a0 : Int) : Option (ByteArray) := cohousingref02_digits.l0 k a0 (strOfNums (([(wrap64 (48 + (Int.tmod a0 10))) % 256] : List Int)))
theorem cohousingref02_digits.mono_l : ∀ k, (∀ y0 y1, LeO (cohousingref02_digits.l0 k y0 y1) (cohousingref02_digits.l0 (k + 1) y0 y1))
  | 0 => fun _ _ r h => by simp [cohousingref02_digits.l0] at h
  | k + 1 => by
    have ih0 := cohousingref02_digits.mono_l k
    · intro y0 y1
      unfold cohousingref02_digits.l0
      repeat' first
      | (with_reducible exact ih0 _ _)
      | (with_reducible exact LeO.refl _)
      | (with_reducible exact LeO.none _)
      | (with_reducible refine LeO.ite ?_ ?_)
      | (with_reducible refine LeO.bind ?_ (fun _ => ?_))
      | exact ih0 _ _
      | exact LeO.none _
      | refine LeO.ite ?_ ?_
      | refine LeO.bind ?_ (fun _ => ?_)
theorem cohousingref02_digits.mono : ∀ a0 k, LeO (cohousingref02_digits.f k a0) (cohousingref02_digits.f (k + 1) a0) := by
  intro a0 k
  have ih0 := cohousingref02_digits.mono_l k
  unfold cohousingref02_digits.f
  repeat' first
      | (with_reducible exact ih0 _ _)
      | (with_reducible exact LeO.refl _)
      | (with_reducible exact LeO.none _)
      | (with_reducible refine LeO.ite ?_ ?_)
      | (with_reducible refine LeO.bind ?_ (fun _ => ?_))
      | exact ih0 _ _
      | exact LeO.none _
      | refine LeO.ite ?_ ?_
      | refine LeO.bind ?_ (fun _ => ?_)
set_option maxHeartbeats 8000000 in
set_option maxRecDepth 100000 in
theorem cohousingref02_digits.calls (k : Nat) (a0 : Int) (r : ByteArray) (w : World) (h : cohousingref02_digits.f k a0 = some r) :
    Calls Tryd.prog 34 #[.int .i64 a0] w fun e w' => e = .returned (.string r) ∧ Below w.heap.size w w' := by
  have HB := Aside0.mk (Below.refl w.heap.size w)
  have H : (cohousingref02_digits.l0 k a0 (strOfNums (([(wrap64 (48 + (Int.tmod a0 10))) % 256] : List Int)))) = some r := h
  clear h
  obtain ⟨y204, hy204⟩ : ∃ y_ : List Int, y_ = (([(wrap64 (48 + (Int.tmod a0 10))) % 256] : List Int)) := ⟨_, rfl⟩
  replace H : (cohousingref02_digits.l0 k a0 (strOfNums y204)) = some r := by first | (rw [hy204]; with_reducible exact H) | (have H2_ := (Option.bind_some _ _).symm.trans H; rw [hy204]; with_reducible exact H2_) | (have H2_ := (Option.bind_some _ _).symm.trans H; with_reducible exact H2_) | with_reducible exact H | (rw [hy204]; exact H) | exact H
  have Ny204 := Aside0.mk hy204
  clear hy204
  have H' := Aside0.mk H
  clear H
  go_enter Tryd.func34, Tryd.ntmps34
  go_wp2_with (first | ((with_reducible refine gate_dst (N := 8) rfl ?_); refine Kd.R_lit (Kd.int .u8) _ 5 ?hg (N := 8) ?hd (xs := ([(wrap64 (48 + (Int.tmod a0 10))) % 256] : List Int)) (inner := [.int .u8 ((wrap64 (48 + (Int.tmod a0 10))) % 256)]) (ok := fun _ => True) (okp := fun _ => True) ?hr ?hp (fun _ hk => hk) trivial (Below.refl _ _) (Nat.le_refl _) (by simp) ?_; (case hd => rfl); (case hg => rfl); (case hr => first | (go_simp; done) | (go_simp; rfl)); (case hp => exact (Reps.one (show Kd.M (Kd.int .u8) _ _ _ ((wrap64 (48 + (Int.tmod a0 10))) % 256) [.int .u8 ((wrap64 (48 + (Int.tmod a0 10))) % 256)] from rfl) (Reps.none _ _))); intro v205 w2 ho3 hb hg_ hnew_; clear hg_ hnew_; (first | rw [← Ny204.out] at ho3 | (simp only [Int.reduceToNat] at ho3; rw [← Ny204.out] at ho3)); have n0_ := Aside0.mk (Kd.R_lower ho3 (below_size (by repeat (first | (with_reducible first | exact HB.out | apply below_alloc | apply pw_below_drewN | apply below_drew1) | exact HB.out)))); have n1_ := Aside0.mk (below_step (by repeat (first | (with_reducible first | exact HB.out | apply below_alloc | apply pw_below_drewN | apply below_drew1) | exact HB.out)) hb); clear HB; have HO206 := n0_; have HB := n1_; clear n0_ n1_; clear hb ho3; have hcv4 := own_string (P := Tryd.prog) Tryd.underlying54 Tryd.underlying5 Tryd.underlying9 (Kd.own_of_R HO206.out)))
  go_loopg [0, 3] k (fun kq v0 v3 w' => ∃ (x0_1 : Int) (x3_1 : ByteArray), v0 = .int .i64 x0_1 ∧ v3 = .string x3_1 ∧ Aside0 (cohousingref02_digits.l0 kq x0_1 x3_1 = some r) ∧ Aside0 (kq ≤ k) ∧ Aside0 (Below w.heap.size w w'))
  case atStart => exact ⟨(a0), (strOfNums y204), (by first | rfl | (simp; done) | (simp [*]; done)), (by first | rfl | (simp; done) | (simp [*]; done)), H', ⟨Nat.le_refl _⟩, ⟨by repeat (first | (with_reducible first | exact HB.out | apply below_alloc | apply pw_below_drewN | apply below_drew1) | exact HB.out)⟩⟩
  case round =>
    clear H'
    try clear p2
    try clear c3
    try clear hcv4
    obtain ⟨x0_1, x3_1, rfl, rfl, HA, HK1, HB⟩ := hrel
    cases gk with
    | zero => exact absurd HA.out (by simp [cohousingref02_digits.l0])
    | succ k1 =>
      have H := HA.out
      clear HA
      simp only [cohousingref02_digits.l0] at H
      by_cases c5 : x0_1 ≥ 10
      · rw [if_pos c5] at H
        have c5b0 : decide (10 ≤ x0_1) = true := decide_eq_true c5
        clear c5
        obtain ⟨y207, hy207⟩ : ∃ y_ : List Int, y_ = (([(wrap64 (48 + (Int.tmod (wrap64 (Int.tdiv x0_1 10)) 10))) % 256] : List Int)) := ⟨_, rfl⟩
        replace H : (if (strOfNums y207).size + x3_1.size ≤ 9223372036854775807 then (cohousingref02_digits.l0 k1 (wrap64 (Int.tdiv x0_1 10)) ((strOfNums y207) ++ x3_1)) else (none)) = some r := by first | (rw [hy207]; with_reducible exact H) | (have H2_ := (Option.bind_some _ _).symm.trans H; rw [hy207]; with_reducible exact H2_) | (have H2_ := (Option.bind_some _ _).symm.trans H; with_reducible exact H2_) | with_reducible exact H | (rw [hy207]; exact H) | exact H
        have Ny207 := Aside0.mk hy207
        clear hy207
        by_cases c6 : (strOfNums y207).size + x3_1.size ≤ 9223372036854775807
        · rw [if_pos c6] at H
          have c6b0 := eq_true c6
          have c6b1 : decide ((strOfNums y207).size + x3_1.size ≤ 9223372036854775807) = true := decide_eq_true c6
          try have c6b2 : (9223372036854775807 < (strOfNums y207).size + x3_1.size) = False := eq_false (Nat.not_lt.2 c6)
          have H' := Aside0.mk H
          clear H
          go_wp2_with (first | ((with_reducible refine gate_dst (N := 18) rfl ?_); refine Kd.R_lit (Kd.int .u8) _ 5 ?hg (N := 18) ?hd (xs := ([(wrap64 (48 + (Int.tmod (wrap64 (Int.tdiv x0_1 10)) 10))) % 256] : List Int)) (inner := [.int .u8 ((wrap64 (48 + (Int.tmod (wrap64 (Int.tdiv x0_1 10)) 10))) % 256)]) (ok := fun _ => True) (okp := fun _ => True) ?hr ?hp (fun _ hk => hk) trivial (Below.refl _ _) (Nat.le_refl _) (by simp) ?_; (case hd => rfl); (case hg => rfl); (case hr => first | (go_simp; done) | (go_simp; rfl)); (case hp => exact (Reps.one (show Kd.M (Kd.int .u8) _ _ _ ((wrap64 (48 + (Int.tmod (wrap64 (Int.tdiv x0_1 10)) 10))) % 256) [.int .u8 ((wrap64 (48 + (Int.tmod (wrap64 (Int.tdiv x0_1 10)) 10))) % 256)] from rfl) (Reps.none _ _))); intro v208 w7 ho8 hb hg_ hnew_; clear hg_ hnew_; (first | rw [← Ny207.out] at ho8 | (simp only [Int.reduceToNat] at ho8; rw [← Ny207.out] at ho8)); have n0_ := Aside0.mk (Kd.R_lower ho8 (below_size (by repeat (first | (with_reducible first | exact HB.out | apply below_alloc | apply pw_below_drewN | apply below_drew1) | exact HB.out)))); have n1_ := Aside0.mk (below_step (by repeat (first | (with_reducible first | exact HB.out | apply below_alloc | apply pw_below_drewN | apply below_drew1) | exact HB.out)) hb); clear HB; have HO209 := n0_; have HB := n1_; clear n0_ n1_; clear hb ho8; have hcv9 := own_string (P := Tryd.prog) Tryd.underlying54 Tryd.underlying5 Tryd.underlying9 (Kd.own_of_R HO209.out)))
          go_roundg k1
          case measure => have := HK1.out; omega
          case rel => exact ⟨(wrap64 (Int.tdiv x0_1 10)), ((strOfNums y207) ++ x3_1), (by first | rfl | (simp; done) | (simp [*]; done)), (by first | rfl | (simp; done) | (simp [*]; done)), H', ⟨by have := HK1.out; omega⟩, ⟨by repeat (first | (with_reducible first | exact HB.out | apply below_alloc | apply pw_below_drewN | apply below_drew1) | exact HB.out)⟩⟩
        · rw [if_neg c6] at H
          exact absurd H (by simp)
      · rw [if_neg c5] at H
        have c5b0 : decide (10 ≤ x0_1) = false := decide_eq_false c5
        clear c5
        obtain rfl := Option.some.inj H
        go_wp2
        go_ret
        exact ⟨by first | rfl | (simp [errW_none, errW_some] <;> rfl) | (simp [*, errW_none, errW_some] <;> rfl), by repeat (first | (with_reducible first | exact HB.out | apply below_alloc | apply pw_below_drewN | apply below_drew1) | exact HB.out)⟩

/-! ### cohousingref02_Text: function 24 -/
def cohousingref02_Text.f (k : Nat) (a0 : Int) : Option (ByteArray × Int) := (cohousingref02_Amount.f a0).bind fun t210 => (if t210 = true then (if a0 < 0 then ((cohousingref02_digits.f k (wrap64 (Int.tdiv (wrap64 (-a0)) 100))).bind fun t211 => (if 1 + t211.size ≤ 9223372036854775807 then (if 1 + t211.size + 1 ≤ 9223372036854775807 then ((some (([(wrap64 (48 + (Int.tmod (wrap64 (Int.tdiv (wrap64 (-a0)) 10)) 10))) % 256, (wrap64 (48 + (Int.tmod (wrap64 (-a0)) 10))) % 256] : List Int) : List Int)).bind fun y212 => (if 1 + t211.size + 1 + (strOfNums y212).size ≤ 9223372036854775807 then (some ((((⟨#[45]⟩ : ByteArray) ++ t211) ++ (⟨#[46]⟩ : ByteArray)) ++ (strOfNums y212), 0)) else (none))) else (none)) else (none))) else ((cohousingref02_digits.f k (wrap64 (Int.tdiv a0 100))).bind fun t215 => (if t215.size ≤ 9223372036854775807 then (if t215.size + 1 ≤ 9223372036854775807 then ((some (([(wrap64 (48 + (Int.tmod (wrap64 (Int.tdiv a0 10)) 10))) % 256, (wrap64 (48 + (Int.tmod a0 10))) % 256] : List Int) : List Int)).bind fun y216 => (if t215.size + 1 + (strOfNums y216).size ≤ 9223372036854775807 then (some ((((⟨#[]⟩ : ByteArray) ++ t215) ++ (⟨#[46]⟩ : ByteArray)) ++ (strOfNums y216), 0)) else (none))) else (none)) else (none)))) else (some ((⟨#[]⟩ : ByteArray), 1)))
theorem cohousingref02_Text.mono : ∀ a0 k, LeO (cohousingref02_Text.f k a0) (cohousingref02_Text.f (k + 1) a0) := by
  intro a0 k
  unfold cohousingref02_Text.f
  repeat' first
      | (with_reducible exact cohousingref02_digits.mono _ _)
      | (with_reducible exact LeO.refl _)
      | (with_reducible exact LeO.none _)
      | (with_reducible refine LeO.ite ?_ ?_)
      | (with_reducible refine LeO.bind ?_ (fun _ => ?_))
      | exact cohousingref02_digits.mono _ _
      | exact LeO.none _
      | refine LeO.ite ?_ ?_
      | refine LeO.bind ?_ (fun _ => ?_)
set_option maxHeartbeats 8000000 in
set_option maxRecDepth 100000 in
theorem cohousingref02_Text.calls (k : Nat) (a0 : Int) (r1 : ByteArray) (r2 : Int) (w : World) (h : cohousingref02_Text.f k a0 = some (r1, r2)) :
    Calls Tryd.prog 24 #[.int .i64 a0] w fun e w' => e = .returned (.tuple #[.string r1, .int .i64 r2]) ∧ Below w.heap.size w w' := by
  have HB := Aside0.mk (Below.refl w.heap.size w)
  have H : ((cohousingref02_Amount.f a0).bind fun t210 => (if t210 = true then (if a0 < 0 then ((cohousingref02_digits.f k (wrap64 (Int.tdiv (wrap64 (-a0)) 100))).bind fun t211 => (if 1 + t211.size ≤ 9223372036854775807 then (if 1 + t211.size + 1 ≤ 9223372036854775807 then ((some (([(wrap64 (48 + (Int.tmod (wrap64 (Int.tdiv (wrap64 (-a0)) 10)) 10))) % 256, (wrap64 (48 + (Int.tmod (wrap64 (-a0)) 10))) % 256] : List Int) : List Int)).bind fun y212 => (if 1 + t211.size + 1 + (strOfNums y212).size ≤ 9223372036854775807 then (some ((((⟨#[45]⟩ : ByteArray) ++ t211) ++ (⟨#[46]⟩ : ByteArray)) ++ (strOfNums y212), 0)) else (none))) else (none)) else (none))) else ((cohousingref02_digits.f k (wrap64 (Int.tdiv a0 100))).bind fun t215 => (if t215.size ≤ 9223372036854775807 then (if t215.size + 1 ≤ 9223372036854775807 then ((some (([(wrap64 (48 + (Int.tmod (wrap64 (Int.tdiv a0 10)) 10))) % 256, (wrap64 (48 + (Int.tmod a0 10))) % 256] : List Int) : List Int)).bind fun y216 => (if t215.size + 1 + (strOfNums y216).size ≤ 9223372036854775807 then (some ((((⟨#[]⟩ : ByteArray) ++ t215) ++ (⟨#[46]⟩ : ByteArray)) ++ (strOfNums y216), 0)) else (none))) else (none)) else (none)))) else (some ((⟨#[]⟩ : ByteArray), 1)))) = some (r1, r2) := h
  clear h
  replace H := Option.bind_eq_some_iff.mp H
  obtain ⟨t210, A20, H⟩ := H
  replace H : (if t210 = true then (if a0 < 0 then ((cohousingref02_digits.f k (wrap64 (Int.tdiv (wrap64 (-a0)) 100))).bind fun t211 => (if 1 + t211.size ≤ 9223372036854775807 then (if 1 + t211.size + 1 ≤ 9223372036854775807 then ((some (([(wrap64 (48 + (Int.tmod (wrap64 (Int.tdiv (wrap64 (-a0)) 10)) 10))) % 256, (wrap64 (48 + (Int.tmod (wrap64 (-a0)) 10))) % 256] : List Int) : List Int)).bind fun y212 => (if 1 + t211.size + 1 + (strOfNums y212).size ≤ 9223372036854775807 then (some ((((⟨#[45]⟩ : ByteArray) ++ t211) ++ (⟨#[46]⟩ : ByteArray)) ++ (strOfNums y212), 0)) else (none))) else (none)) else (none))) else ((cohousingref02_digits.f k (wrap64 (Int.tdiv a0 100))).bind fun t215 => (if t215.size ≤ 9223372036854775807 then (if t215.size + 1 ≤ 9223372036854775807 then ((some (([(wrap64 (48 + (Int.tmod (wrap64 (Int.tdiv a0 10)) 10))) % 256, (wrap64 (48 + (Int.tmod a0 10))) % 256] : List Int) : List Int)).bind fun y216 => (if t215.size + 1 + (strOfNums y216).size ≤ 9223372036854775807 then (some ((((⟨#[]⟩ : ByteArray) ++ t215) ++ (⟨#[46]⟩ : ByteArray)) ++ (strOfNums y216), 0)) else (none))) else (none)) else (none)))) else (some ((⟨#[]⟩ : ByteArray), 1))) = some (r1, r2) := H
  have A2 := Aside0.mk A20
  clear A20
  by_cases c3 : t210 = true
  · subst c3
    have H1 : (if a0 < 0 then ((cohousingref02_digits.f k (wrap64 (Int.tdiv (wrap64 (-a0)) 100))).bind fun t211 => (if 1 + t211.size ≤ 9223372036854775807 then (if 1 + t211.size + 1 ≤ 9223372036854775807 then ((some (([(wrap64 (48 + (Int.tmod (wrap64 (Int.tdiv (wrap64 (-a0)) 10)) 10))) % 256, (wrap64 (48 + (Int.tmod (wrap64 (-a0)) 10))) % 256] : List Int) : List Int)).bind fun y212 => (if 1 + t211.size + 1 + (strOfNums y212).size ≤ 9223372036854775807 then (some ((((⟨#[45]⟩ : ByteArray) ++ t211) ++ (⟨#[46]⟩ : ByteArray)) ++ (strOfNums y212), 0)) else (none))) else (none)) else (none))) else ((cohousingref02_digits.f k (wrap64 (Int.tdiv a0 100))).bind fun t215 => (if t215.size ≤ 9223372036854775807 then (if t215.size + 1 ≤ 9223372036854775807 then ((some (([(wrap64 (48 + (Int.tmod (wrap64 (Int.tdiv a0 10)) 10))) % 256, (wrap64 (48 + (Int.tmod a0 10))) % 256] : List Int) : List Int)).bind fun y216 => (if t215.size + 1 + (strOfNums y216).size ≤ 9223372036854775807 then (some ((((⟨#[]⟩ : ByteArray) ++ t215) ++ (⟨#[46]⟩ : ByteArray)) ++ (strOfNums y216), 0)) else (none))) else (none)) else (none)))) = some (r1, r2) := by rw [if_pos rfl] at H; exact H
    clear H
    have H := H1
    clear H1
    by_cases c4 : a0 < 0
    · rw [if_pos c4] at H
      have c4b0 : decide (a0 < 0) = true := decide_eq_true c4
      clear c4
      replace H := Option.bind_eq_some_iff.mp H
      obtain ⟨t211, A50, H⟩ := H
      replace H : (if 1 + t211.size ≤ 9223372036854775807 then (if 1 + t211.size + 1 ≤ 9223372036854775807 then ((some (([(wrap64 (48 + (Int.tmod (wrap64 (Int.tdiv (wrap64 (-a0)) 10)) 10))) % 256, (wrap64 (48 + (Int.tmod (wrap64 (-a0)) 10))) % 256] : List Int) : List Int)).bind fun y212 => (if 1 + t211.size + 1 + (strOfNums y212).size ≤ 9223372036854775807 then (some ((((⟨#[45]⟩ : ByteArray) ++ t211) ++ (⟨#[46]⟩ : ByteArray)) ++ (strOfNums y212), 0)) else (none))) else (none)) else (none)) = some (r1, r2) := H
      have A5 := Aside0.mk A50
      clear A50
      by_cases c6 : 1 + t211.size ≤ 9223372036854775807
      · rw [if_pos c6] at H
        have c6b0 := eq_true c6
        have c6b1 : decide (1 + t211.size ≤ 9223372036854775807) = true := decide_eq_true c6
        try have c6b2 : (9223372036854775807 < 1 + t211.size) = False := eq_false (Nat.not_lt.2 c6)
        by_cases c7 : 1 + t211.size + 1 ≤ 9223372036854775807
        · rw [if_pos c7] at H
          have c7b0 := eq_true c7
          have c7b1 : decide (1 + t211.size + 1 ≤ 9223372036854775807) = true := decide_eq_true c7
          try have c7b2 : (9223372036854775807 < 1 + t211.size + 1) = False := eq_false (Nat.not_lt.2 c7)
          obtain ⟨y212, hy212⟩ : ∃ y_ : List Int, y_ = (([(wrap64 (48 + (Int.tmod (wrap64 (Int.tdiv (wrap64 (-a0)) 10)) 10))) % 256, (wrap64 (48 + (Int.tmod (wrap64 (-a0)) 10))) % 256] : List Int)) := ⟨_, rfl⟩
          replace H : (if 1 + t211.size + 1 + (strOfNums y212).size ≤ 9223372036854775807 then (some ((((⟨#[45]⟩ : ByteArray) ++ t211) ++ (⟨#[46]⟩ : ByteArray)) ++ (strOfNums y212), 0)) else (none)) = some (r1, r2) := by first | (rw [hy212]; with_reducible exact H) | (have H2_ := (Option.bind_some _ _).symm.trans H; rw [hy212]; with_reducible exact H2_) | (have H2_ := (Option.bind_some _ _).symm.trans H; with_reducible exact H2_) | with_reducible exact H | (rw [hy212]; exact H) | exact H
          have Ny212 := Aside0.mk hy212
          clear hy212
          by_cases c8 : 1 + t211.size + 1 + (strOfNums y212).size ≤ 9223372036854775807
          · rw [if_pos c8] at H
            have c8b0 := eq_true c8
            have c8b1 : decide (1 + t211.size + 1 + (strOfNums y212).size ≤ 9223372036854775807) = true := decide_eq_true c8
            try have c8b2 : (9223372036854775807 < 1 + t211.size + 1 + (strOfNums y212).size) = False := eq_false (Nat.not_lt.2 c8)
            simp only [Option.some.injEq, Prod.mk.injEq] at H
            obtain ⟨rfl, rfl⟩ := H
            go_enter Tryd.func24, Tryd.ntmps24
            go_wp2_with (first | ((with_reducible refine gate_callee (f := 12) rfl ?_); refine goesL_ (some 8) rfl rfl Tryd.func12 (by kernel_rfl) rfl #[.int .i64 a0] rfl (by (try simp only [List.map_toArray, List.map_cons, List.map_nil]); first | done | rfl | (simp only [List.length_drop, List.length_take]; rfl)) ?_; (with_reducible refine (cohousingref02_Amount.calls a0 true _ A2.out).mono ?_); rintro e w' ⟨rfl, ⟨nd, rfl⟩⟩; refine ⟨_, rfl, ?_⟩) | ((with_reducible refine gate_callee (f := 34) rfl ?_); refine goesL_ (some 18) rfl rfl Tryd.func34 (by kernel_rfl) rfl #[.int .i64 (wrap64 (Int.tdiv (wrap64 (-a0)) 100))] rfl (by (try simp only [List.map_toArray, List.map_cons, List.map_nil]); first | done | rfl | (simp only [List.length_drop, List.length_take]; rfl)) ?_; (with_reducible refine (cohousingref02_digits.calls k (wrap64 (Int.tdiv (wrap64 (-a0)) 100)) t211 _ A5.out).mono ?_); rintro e w9 ⟨rfl, hb⟩; refine ⟨_, rfl, ?_⟩; have n0_ := Aside0.mk (below_step (by repeat (first | (with_reducible first | exact HB.out | apply below_alloc | apply pw_below_drewN | apply below_drew1) | exact HB.out)) hb); clear HB; have HB := n0_; clear n0_; (try clear hb); (try clear hb2); (try clear hk); (try clear hi)) | ((with_reducible refine gate_dst (N := 31) rfl ?_); refine Kd.R_lit (Kd.int .u8) _ 5 ?hg (N := 31) ?hd (xs := ([(wrap64 (48 + (Int.tmod (wrap64 (Int.tdiv (wrap64 (-a0)) 10)) 10))) % 256, (wrap64 (48 + (Int.tmod (wrap64 (-a0)) 10))) % 256] : List Int)) (inner := [.int .u8 ((wrap64 (48 + (Int.tmod (wrap64 (Int.tdiv (wrap64 (-a0)) 10)) 10))) % 256), .int .u8 ((wrap64 (48 + (Int.tmod (wrap64 (-a0)) 10))) % 256)]) (ok := fun _ => True) (okp := fun _ => True) ?hr ?hp (fun _ hk => hk) trivial (Below.refl _ _) (Nat.le_refl _) (by simp) ?_; (case hd => rfl); (case hg => rfl); (case hr => first | (go_simp; done) | (go_simp; rfl)); (case hp => exact (Reps.one (show Kd.M (Kd.int .u8) _ _ _ ((wrap64 (48 + (Int.tmod (wrap64 (Int.tdiv (wrap64 (-a0)) 10)) 10))) % 256) [.int .u8 ((wrap64 (48 + (Int.tmod (wrap64 (Int.tdiv (wrap64 (-a0)) 10)) 10))) % 256)] from rfl) (Reps.one (show Kd.M (Kd.int .u8) _ _ _ ((wrap64 (48 + (Int.tmod (wrap64 (-a0)) 10))) % 256) [.int .u8 ((wrap64 (48 + (Int.tmod (wrap64 (-a0)) 10))) % 256)] from rfl) (Reps.none _ _)))); intro v213 w10 ho11 hb hg_ hnew_; clear hg_ hnew_; (first | rw [← Ny212.out] at ho11 | (simp only [Int.reduceToNat] at ho11; rw [← Ny212.out] at ho11)); have n0_ := Aside0.mk (Kd.R_lower ho11 (below_size (by repeat (first | (with_reducible first | exact HB.out | apply below_alloc | apply pw_below_drewN | apply below_drew1) | exact HB.out)))); have n1_ := Aside0.mk (below_step (by repeat (first | (with_reducible first | exact HB.out | apply below_alloc | apply pw_below_drewN | apply below_drew1) | exact HB.out)) hb); clear HB; have HO214 := n0_; have HB := n1_; clear n0_ n1_; clear hb ho11; have hcv12 := own_string (P := Tryd.prog) Tryd.underlying54 Tryd.underlying5 Tryd.underlying9 (Kd.own_of_R HO214.out)))
            go_ret2
            exact ⟨by first | rfl | (simp [errW_none, errW_some] <;> rfl) | (simp [*, errW_none, errW_some] <;> rfl), by repeat (first | (with_reducible first | exact HB.out | apply below_alloc | apply pw_below_drewN | apply below_drew1) | exact HB.out)⟩
          · rw [if_neg c8] at H
            exact absurd H (by simp)
        · rw [if_neg c7] at H
          exact absurd H (by simp)
      · rw [if_neg c6] at H
        exact absurd H (by simp)
    · rw [if_neg c4] at H
      have c4b0 : decide (a0 < 0) = false := decide_eq_false c4
      clear c4
      replace H := Option.bind_eq_some_iff.mp H
      obtain ⟨t215, A130, H⟩ := H
      replace H : (if t215.size ≤ 9223372036854775807 then (if t215.size + 1 ≤ 9223372036854775807 then ((some (([(wrap64 (48 + (Int.tmod (wrap64 (Int.tdiv a0 10)) 10))) % 256, (wrap64 (48 + (Int.tmod a0 10))) % 256] : List Int) : List Int)).bind fun y216 => (if t215.size + 1 + (strOfNums y216).size ≤ 9223372036854775807 then (some ((((⟨#[]⟩ : ByteArray) ++ t215) ++ (⟨#[46]⟩ : ByteArray)) ++ (strOfNums y216), 0)) else (none))) else (none)) else (none)) = some (r1, r2) := H
      have A13 := Aside0.mk A130
      clear A130
      by_cases c14 : t215.size ≤ 9223372036854775807
      · rw [if_pos c14] at H
        have c14b0 := eq_true c14
        have c14b1 : decide (t215.size ≤ 9223372036854775807) = true := decide_eq_true c14
        try have c14b2 : (9223372036854775807 < t215.size) = False := eq_false (Nat.not_lt.2 c14)
        clear c14
        by_cases c15 : t215.size + 1 ≤ 9223372036854775807
        · rw [if_pos c15] at H
          have c15b0 := eq_true c15
          have c15b1 : decide (t215.size + 1 ≤ 9223372036854775807) = true := decide_eq_true c15
          try have c15b2 : (9223372036854775807 < t215.size + 1) = False := eq_false (Nat.not_lt.2 c15)
          obtain ⟨y216, hy216⟩ : ∃ y_ : List Int, y_ = (([(wrap64 (48 + (Int.tmod (wrap64 (Int.tdiv a0 10)) 10))) % 256, (wrap64 (48 + (Int.tmod a0 10))) % 256] : List Int)) := ⟨_, rfl⟩
          replace H : (if t215.size + 1 + (strOfNums y216).size ≤ 9223372036854775807 then (some ((((⟨#[]⟩ : ByteArray) ++ t215) ++ (⟨#[46]⟩ : ByteArray)) ++ (strOfNums y216), 0)) else (none)) = some (r1, r2) := by first | (rw [hy216]; with_reducible exact H) | (have H2_ := (Option.bind_some _ _).symm.trans H; rw [hy216]; with_reducible exact H2_) | (have H2_ := (Option.bind_some _ _).symm.trans H; with_reducible exact H2_) | with_reducible exact H | (rw [hy216]; exact H) | exact H
          have Ny216 := Aside0.mk hy216
          clear hy216
          by_cases c16 : t215.size + 1 + (strOfNums y216).size ≤ 9223372036854775807
          · rw [if_pos c16] at H
            have c16b0 := eq_true c16
            have c16b1 : decide (t215.size + 1 + (strOfNums y216).size ≤ 9223372036854775807) = true := decide_eq_true c16
            try have c16b2 : (9223372036854775807 < t215.size + 1 + (strOfNums y216).size) = False := eq_false (Nat.not_lt.2 c16)
            simp only [Option.some.injEq, Prod.mk.injEq] at H
            obtain ⟨rfl, rfl⟩ := H
            go_enter Tryd.func24, Tryd.ntmps24
            go_wp2_with (first | ((with_reducible refine gate_callee (f := 12) rfl ?_); refine goesL_ (some 8) rfl rfl Tryd.func12 (by kernel_rfl) rfl #[.int .i64 a0] rfl (by (try simp only [List.map_toArray, List.map_cons, List.map_nil]); first | done | rfl | (simp only [List.length_drop, List.length_take]; rfl)) ?_; (with_reducible refine (cohousingref02_Amount.calls a0 true _ A2.out).mono ?_); rintro e w' ⟨rfl, ⟨nd, rfl⟩⟩; refine ⟨_, rfl, ?_⟩) | ((with_reducible refine gate_callee (f := 34) rfl ?_); refine goesL_ (some 18) rfl rfl Tryd.func34 (by kernel_rfl) rfl #[.int .i64 (wrap64 (Int.tdiv a0 100))] rfl (by (try simp only [List.map_toArray, List.map_cons, List.map_nil]); first | done | rfl | (simp only [List.length_drop, List.length_take]; rfl)) ?_; (with_reducible refine (cohousingref02_digits.calls k (wrap64 (Int.tdiv a0 100)) t215 _ A13.out).mono ?_); rintro e w17 ⟨rfl, hb⟩; refine ⟨_, rfl, ?_⟩; have n0_ := Aside0.mk (below_step (by repeat (first | (with_reducible first | exact HB.out | apply below_alloc | apply pw_below_drewN | apply below_drew1) | exact HB.out)) hb); clear HB; have HB := n0_; clear n0_; (try clear hb); (try clear hb2); (try clear hk); (try clear hi)) | ((with_reducible refine gate_dst (N := 31) rfl ?_); refine Kd.R_lit (Kd.int .u8) _ 5 ?hg (N := 31) ?hd (xs := ([(wrap64 (48 + (Int.tmod (wrap64 (Int.tdiv a0 10)) 10))) % 256, (wrap64 (48 + (Int.tmod a0 10))) % 256] : List Int)) (inner := [.int .u8 ((wrap64 (48 + (Int.tmod (wrap64 (Int.tdiv a0 10)) 10))) % 256), .int .u8 ((wrap64 (48 + (Int.tmod a0 10))) % 256)]) (ok := fun _ => True) (okp := fun _ => True) ?hr ?hp (fun _ hk => hk) trivial (Below.refl _ _) (Nat.le_refl _) (by simp) ?_; (case hd => rfl); (case hg => rfl); (case hr => first | (go_simp; done) | (go_simp; rfl)); (case hp => exact (Reps.one (show Kd.M (Kd.int .u8) _ _ _ ((wrap64 (48 + (Int.tmod (wrap64 (Int.tdiv a0 10)) 10))) % 256) [.int .u8 ((wrap64 (48 + (Int.tmod (wrap64 (Int.tdiv a0 10)) 10))) % 256)] from rfl) (Reps.one (show Kd.M (Kd.int .u8) _ _ _ ((wrap64 (48 + (Int.tmod a0 10))) % 256) [.int .u8 ((wrap64 (48 + (Int.tmod a0 10))) % 256)] from rfl) (Reps.none _ _)))); intro v217 w18 ho19 hb hg_ hnew_; clear hg_ hnew_; (first | rw [← Ny216.out] at ho19 | (simp only [Int.reduceToNat] at ho19; rw [← Ny216.out] at ho19)); have n0_ := Aside0.mk (Kd.R_lower ho19 (below_size (by repeat (first | (with_reducible first | exact HB.out | apply below_alloc | apply pw_below_drewN | apply below_drew1) | exact HB.out)))); have n1_ := Aside0.mk (below_step (by repeat (first | (with_reducible first | exact HB.out | apply below_alloc | apply pw_below_drewN | apply below_drew1) | exact HB.out)) hb); clear HB; have HO218 := n0_; have HB := n1_; clear n0_ n1_; clear hb ho19; have hcv20 := own_string (P := Tryd.prog) Tryd.underlying54 Tryd.underlying5 Tryd.underlying9 (Kd.own_of_R HO218.out)))
            go_ret2
            exact ⟨by first | rfl | (simp [errW_none, errW_some] <;> rfl) | (simp [*, errW_none, errW_some] <;> rfl), by repeat (first | (with_reducible first | exact HB.out | apply below_alloc | apply pw_below_drewN | apply below_drew1) | exact HB.out)⟩
          · rw [if_neg c16] at H
            exact absurd H (by simp)
        · rw [if_neg c15] at H
          exact absurd H (by simp)
      · rw [if_neg c14] at H
        exact absurd H (by simp)
  · replace c3 := Bool.eq_false_iff.mpr c3
    subst c3
    have H1 : (some ((⟨#[]⟩ : ByteArray), 1)) = some (r1, r2) := by rw [if_neg (show ¬ (false = true) by decide)] at H; exact H
    clear H
    have H := H1
    clear H1
    simp only [Option.some.injEq, Prod.mk.injEq] at H
    obtain ⟨rfl, rfl⟩ := H
    go_enter Tryd.func24, Tryd.ntmps24
    go_wp2_with (first | ((with_reducible refine gate_callee (f := 12) rfl ?_); refine goesL_ (some 8) rfl rfl Tryd.func12 (by kernel_rfl) rfl #[.int .i64 a0] rfl (by (try simp only [List.map_toArray, List.map_cons, List.map_nil]); first | done | rfl | (simp only [List.length_drop, List.length_take]; rfl)) ?_; (with_reducible refine (cohousingref02_Amount.calls a0 false _ A2.out).mono ?_); rintro e w' ⟨rfl, ⟨nd, rfl⟩⟩; refine ⟨_, rfl, ?_⟩))
    go_ret2
    exact ⟨by first | rfl | (simp [errW_none, errW_some] <;> rfl) | (simp [*, errW_none, errW_some] <;> rfl), by repeat (first | (with_reducible first | exact HB.out | apply below_alloc | apply pw_below_drewN | apply below_drew1) | exact HB.out)⟩

/-! ### strings_Cut: function 35 -/
-- by hand: strings.Cut
def cutAt (s : ByteArray) (c : UInt8) : ByteArray × ByteArray × Bool :=
  if 0 ≤ Lib.indexByte s.data.toList c then (s.extract 0 (Lib.indexByte s.data.toList c).toNat, s.extract ((Lib.indexByte s.data.toList c).toNat + 1) s.size, true) else (s, ⟨#[]⟩, false)
theorem indexByte_lt : ∀ (l : List UInt8) (c : UInt8), Lib.indexByte l c < l.length
  | [], c => by simp [Lib.indexByte]
  | b :: l, c => by
    have h := indexByte_lt l c
    simp only [Lib.indexByte, List.length_cons]
    split
    · omega
    · split <;> omega
theorem slite_cut (s : ByteArray) (c : UInt8) (w : World) (hs : s.size ≤ 9223372036854775806) :
    Calls Tryd.prog 48 #[.string s, .string ⟨#[c]⟩] w fun e w' => e = .returned (.tuple #[.string (cutAt s c).1, .string (cutAt s c).2.1, .bool (cutAt s c).2.2]) ∧ Drawn0 w w' := by
  have hi := indexByte_lt s.data.toList c
  have hI : ∀ W, Calls Tryd.prog 57 #[.string s, .string ⟨#[c]⟩] W fun e w' => e = .returned (.int .i64 (Lib.indexByte s.data.toList c)) ∧ w' = W := fun W => Tryd.stringslite_Index_one s c W
  have hlen : s.data.toList.length = s.size := by simp
  rw [hlen] at hi
  by_cases h0 : 0 ≤ Lib.indexByte s.data.toList c
  · have e1 : cutAt s c = (s.extract 0 (Lib.indexByte s.data.toList c).toNat, s.extract ((Lib.indexByte s.data.toList c).toNat + 1) s.size, true) := by unfold cutAt; rw [if_pos h0]
    rw [e1]
    clear e1
    obtain ⟨i, hii⟩ : ∃ i : Nat, Lib.indexByte s.data.toList c = i := ⟨(Lib.indexByte s.data.toList c).toNat, by omega⟩
    rw [hii] at hI h0 hi ⊢
    clear hii hlen
    have hi2 : i < s.size := by omega
    have HI := Lib.hid hI
    clear hI
    go_enter Tryd.func48, Tryd.ntmps48
    go_wp2_with fail
    refine (HI.out _).mono ?_
    rintro e w' ⟨rfl, rfl⟩
    go_wp2_with fail
    have hz : (ByteArray.mk #[c]).size = 1 := rfl
    have g1 : (0 : Int) ≤ (i : Int) := by omega
    have g2 : (i : Int) ≤ (s.size : Int) := by omega
    have g3 : (0 : Int) ≤ (i : Int) + 1 := by omega
    have g4 : (i : Int) + 1 ≤ (s.size : Int) := by omega
    go_region
    go_wp2
    go_ret3
    exact ⟨rfl, (Drawn0.refl _).step 1⟩
  · have e1 : cutAt s c = (s, ⟨#[]⟩, false) := by unfold cutAt; rw [if_neg h0]
    rw [e1]
    clear e1
    have hge := Lib.indexByte_ge s.data.toList c
    have hm : Lib.indexByte s.data.toList c = -1 := by omega
    rw [hm] at hI
    clear hm h0 hge hi hlen
    have HI := Lib.hid hI
    clear hI
    go_enter Tryd.func48, Tryd.ntmps48
    go_wp2_with fail
    refine (HI.out _).mono ?_
    rintro e w' ⟨rfl, rfl⟩
    go_wp2_with fail
    go_ret3
    exact ⟨rfl, Drawn0.refl _⟩
theorem cut_one (s : ByteArray) (c : UInt8) (w : World) (hs : s.size ≤ 9223372036854775806) :
    Calls Tryd.prog 35 #[.string s, .string ⟨#[c]⟩] w fun e w' => e = .returned (.tuple #[.string (cutAt s c).1, .string (cutAt s c).2.1, .bool (cutAt s c).2.2]) ∧ Drawn0 w w' := by
  have H := Lib.hid (fun W => slite_cut s c W hs)
  go_enter Tryd.func35, Tryd.ntmps35
  go_wp2_with fail
  refine (H.out _).mono ?_
  rintro e w' ⟨rfl, hd⟩
  go_wp2_with fail
  go_ret3
  exact ⟨rfl, hd⟩
/-- At a separator of one byte. -/
def strings_Cut.f (a0 a1 : ByteArray) : Option (ByteArray × ByteArray × Bool) := if a0.size ≤ 9223372036854775806 then (match a1.data.toList with | [c] => some (cutAt a0 c) | _ => none) else none
theorem strings_Cut.calls (a0 a1 : ByteArray) (r1 r2 : ByteArray) (r3 : Bool) (w : World) (h : strings_Cut.f a0 a1 = some (r1, r2, r3)) :
    Calls Tryd.prog 35 #[.string a0, .string a1] w fun e w' => e = .returned (.tuple #[.string r1, .string r2, .bool r3]) ∧ Drawn0 w w' := by
  unfold strings_Cut.f at h
  split at h
  · rename_i hs
    split at h
    · rename_i c hc
      have e : a1 = ⟨#[c]⟩ := by
        cases a1 with
        | mk d => cases d with
          | mk l => simp at hc; subst hc; rfl
      subst e
      have e2 := Option.some.inj h
      have := cut_one a0 c w hs
      rw [e2] at this
      exact this
    · cases h
  · cases h

/-! ### strconv_Atoi: function 39 -/
-- by hand: strconv.Atoi
theorem atoi_ok (s : ByteArray) (v : Int) (w : World) (hs : s.size ≤ 281474976710656) (h : Lib.atoiAll s.data.toList = .ok v) :
    Calls Tryd.prog 39 #[.string s] w fun e w' => e = .returned (.tuple #[.int .i64 v, .nilIface]) ∧ Below w.heap.size w w' := by
  refine (Tryd.strconv_Atoi_ok s (by omega) v h w).mono ?_
  rintro e w' ⟨rfl, hw⟩
  refine ⟨rfl, ?_⟩
  rcases hw with rfl | ⟨t, rfl⟩
  · exact Below.refl _ _
  · exact Lib.bytesWorld_below _ _ _
/-- At a string that spells an int. -/
def strconv_Atoi.f (a0 : ByteArray) : Option (Int × Option Int) := if a0.size ≤ 281474976710656 then (match Lib.atoiAll a0.data.toList with | .ok v => some (v, none) | _ => none) else none
theorem strconv_Atoi.calls (a0 : ByteArray) (r1 : Int) (r2 : Option Int) (w : World) (h : strconv_Atoi.f a0 = some (r1, r2)) :
    Calls Tryd.prog 39 #[.string a0] w fun e w' => e = .returned (.tuple #[.int .i64 r1, errW r2]) ∧ Below w.heap.size w w' := by
  unfold strconv_Atoi.f at h
  split at h
  · rename_i hs
    split at h
    · rename_i v hv
      cases h
      exact atoi_ok a0 _ w hs hv
    · cases h
  · cases h

end Go.Proofs.YtcbhaoaameiacaaDoor.X
