-- Written by a program of mine (wip/tools/xprint.py) over the kit's print.py: printed functions and hand-proved ones side by side.
import Derived.Test.YteifflpjhlgpjaaDoorXx0
import Derived.Test.YteifflpjhlgpjaaDoorXx6
import Derived.Test.YteifflpjhlgpjaaDoorXx7
namespace Go.Proofs.YteifflpjhlgpjaaDoor.X
open Go.RowKit Go.Proofs.YteifflpjhlgpjaaDoorW.PrintWords Go.Proofs.YteifflpjhlgpjaaDoorW.PrintLast Go.Proofs.YteifflpjhlgpjaaDoorW.PrintMore
attribute [local go_sem] max2_int min2_int max_two min_two max_three min_three max_four min_four   -- for this text's walks alone
set_option linter.unusedVariables false
set_option linter.unusedSimpArgs false

/-! ### cohousingref01_Parse: function 32 -/
mutual
def cohousingref01_Parse.j0 : Nat → ByteArray → Bool → Option (Int × Int × Int)
 | 0, _, _ => none
 | k + 1, x0, x4 => if x4 = true then (if 1 ≤ (x0.size : Int) then (cohousingref01_Parse.j1 k (x0.extract 1 x0.size) x4) else (none)) else (cohousingref01_Parse.j1 k x0 x4)
def cohousingref01_Parse.j1 : Nat → ByteArray → Bool → Option (Int × Int × Int)
 | 0, _, _ => none
 | k + 1, x0, x4 => cohousingref01_Parse.l0 k x0 x4 0
def cohousingref01_Parse.j3 : Nat → ByteArray → Bool → Int → Option (Int × Int × Int)
 | 0, _, _, _ => none
 | k + 1, x0, x4, x5 => if 0 ≤ x5 then (if x5 ≤ (x0.size : Int) then ((cohousingref01_Number.f k (x0.extract 0 (x5 : Int).toNat)).bind fun bt296 => (if x5 < (x0.size : Int) then (if 0 ≤ (wrap64 (x5 + 1)) then (if (wrap64 (x5 + 1)) ≤ (x0.size : Int) then ((cohousingref01_Number.f k (x0.extract ((wrap64 (x5 + 1)) : Int).toNat x0.size)).bind fun bt298 => (if bt296.2 = true then (if bt298.2 = true then (cohousingref01_Parse.j4 k x4 bt296.1 (bt298.1 != 1) bt296.1 bt298.1) else (cohousingref01_Parse.j4 k x4 bt296.1 false bt296.1 bt298.1)) else (cohousingref01_Parse.j4 k x4 bt296.1 false bt296.1 bt298.1))) else (none)) else (none)) else (cohousingref01_Parse.j4 k x4 bt296.1 bt296.2 bt296.1 1))) else (none)) else (none)
def cohousingref01_Parse.j4 : Nat → Bool → Int → Bool → Int → Int → Option (Int × Int × Int)
 | 0, _, _, _, _, _ => none
 | k + 1, x4, x7, x8, x296000, x296001 => if x4 = true then (if x8 = true then (if x7 = 0 then (some (0, 0, 8)) else ((cohousingref01_Valid.f k (wrap64 (-x7)) x296001).bind fun t300 => (if t300 = true then (some (wrap64 (-x7), x296001, 0)) else (some (0, 0, 8))))) else (some (0, 0, 8))) else (if x8 = true then ((cohousingref01_Valid.f k x296000 x296001).bind fun t301 => (if t301 = true then (some (x296000, x296001, 0)) else (some (0, 0, 8)))) else (some (0, 0, 8)))
def cohousingref01_Parse.l0 : Nat → ByteArray → Bool → Int → Option (Int × Int × Int)
 | 0, _, _, _ => none
 | k + 1, x0, x4, x5 => if x5 < (x0.size : Int) then (if 0 ≤ x5 then (if (bt x0 x5) = 47 then (cohousingref01_Parse.j3 k x0 x4 x5) else (cohousingref01_Parse.l0 k x0 x4 (wrap64 (x5 + 1)))) else (none)) else (cohousingref01_Parse.j3 k x0 x4 x5)
end
def cohousingref01_Parse.f (k : Nat) (a0 : ByteArray) : Option (Int × Int × Int) := if (a0.size : Int) > 0 then (if 0 < (a0.size : Int) then (cohousingref01_Parse.j0 k a0 ((bt a0 0) == 45)) else (none)) else (cohousingref01_Parse.j0 k a0 false)
theorem cohousingref01_Parse.mono_l : ∀ k, (∀ y0 y1, LeO (cohousingref01_Parse.j0 k y0 y1) (cohousingref01_Parse.j0 (k + 1) y0 y1)) ∧ (∀ y0 y1, LeO (cohousingref01_Parse.j1 k y0 y1) (cohousingref01_Parse.j1 (k + 1) y0 y1)) ∧ (∀ y0 y1 y2, LeO (cohousingref01_Parse.j3 k y0 y1 y2) (cohousingref01_Parse.j3 (k + 1) y0 y1 y2)) ∧ (∀ y0 y1 y2 y3 y4, LeO (cohousingref01_Parse.j4 k y0 y1 y2 y3 y4) (cohousingref01_Parse.j4 (k + 1) y0 y1 y2 y3 y4)) ∧ (∀ y0 y1 y2, LeO (cohousingref01_Parse.l0 k y0 y1 y2) (cohousingref01_Parse.l0 (k + 1) y0 y1 y2))
 | 0 => ⟨fun _ _ r h => by simp [cohousingref01_Parse.j0] at h, fun _ _ r h => by simp [cohousingref01_Parse.j1] at h, fun _ _ _ r h => by simp [cohousingref01_Parse.j3] at h, fun _ _ _ _ _ r h => by simp [cohousingref01_Parse.j4] at h, fun _ _ _ r h => by simp [cohousingref01_Parse.l0] at h⟩
 | k + 1 => by
  obtain ⟨ih0, ih1, ih2, ih3, ih4⟩ := cohousingref01_Parse.mono_l k
  refine ⟨?_, ?_, ?_, ?_, ?_⟩
  ·intro y0 y1
   unfold cohousingref01_Parse.j0
   repeat' first
   | (with_reducible exact ih0 _ _)
   | (with_reducible exact ih1 _ _)
   | (with_reducible exact ih2 _ _ _)
   | (with_reducible exact ih3 _ _ _ _ _)
   | (with_reducible exact ih4 _ _ _)
   | (with_reducible exact cohousingref01_Number.mono _ _)
   | (with_reducible exact cohousingref01_Valid.mono _ _ _)
   | (with_reducible exact LeO.refl _)
   | (with_reducible exact LeO.none _)
   | (with_reducible refine LeO.ite ?_ ?_)
   | (with_reducible refine LeO.bind ?_ (fun _ => ?_))
   | exact ih0 _ _
   | exact ih1 _ _
   | exact ih2 _ _ _
   | exact ih3 _ _ _ _ _
   | exact ih4 _ _ _
   | exact cohousingref01_Number.mono _ _
   | exact cohousingref01_Valid.mono _ _ _
   | exact LeO.none _
   | refine LeO.ite ?_ ?_
   | refine LeO.bind ?_ (fun _ => ?_)
  ·intro y0 y1
   unfold cohousingref01_Parse.j1
   repeat' first
   | (with_reducible exact ih0 _ _)
   | (with_reducible exact ih1 _ _)
   | (with_reducible exact ih2 _ _ _)
   | (with_reducible exact ih3 _ _ _ _ _)
   | (with_reducible exact ih4 _ _ _)
   | (with_reducible exact cohousingref01_Number.mono _ _)
   | (with_reducible exact cohousingref01_Valid.mono _ _ _)
   | (with_reducible exact LeO.refl _)
   | (with_reducible exact LeO.none _)
   | (with_reducible refine LeO.ite ?_ ?_)
   | (with_reducible refine LeO.bind ?_ (fun _ => ?_))
   | exact ih0 _ _
   | exact ih1 _ _
   | exact ih2 _ _ _
   | exact ih3 _ _ _ _ _
   | exact ih4 _ _ _
   | exact cohousingref01_Number.mono _ _
   | exact cohousingref01_Valid.mono _ _ _
   | exact LeO.none _
   | refine LeO.ite ?_ ?_
   | refine LeO.bind ?_ (fun _ => ?_)
  ·intro y0 y1 y2
   unfold cohousingref01_Parse.j3
   repeat' first
   | (with_reducible exact ih0 _ _)
   | (with_reducible exact ih1 _ _)
   | (with_reducible exact ih2 _ _ _)
   | (with_reducible exact ih3 _ _ _ _ _)
   | (with_reducible exact ih4 _ _ _)
   | (with_reducible exact cohousingref01_Number.mono _ _)
   | (with_reducible exact cohousingref01_Valid.mono _ _ _)
   | (with_reducible exact LeO.refl _)
   | (with_reducible exact LeO.none _)
   | (with_reducible refine LeO.ite ?_ ?_)
   | (with_reducible refine LeO.bind ?_ (fun _ => ?_))
   | exact ih0 _ _
   | exact ih1 _ _
   | exact ih2 _ _ _
   | exact ih3 _ _ _ _ _
   | exact ih4 _ _ _
   | exact cohousingref01_Number.mono _ _
   | exact cohousingref01_Valid.mono _ _ _
   | exact LeO.none _
   | refine LeO.ite ?_ ?_
   | refine LeO.bind ?_ (fun _ => ?_)
  ·intro y0 y1 y2 y3 y4
   unfold cohousingref01_Parse.j4
   repeat' first
   | (with_reducible exact ih0 _ _)
   | (with_reducible exact ih1 _ _)
   | (with_reducible exact ih2 _ _ _)
   | (with_reducible exact ih3 _ _ _ _ _)
   | (with_reducible exact ih4 _ _ _)
   | (with_reducible exact cohousingref01_Number.mono _ _)
   | (with_reducible exact cohousingref01_Valid.mono _ _ _)
   | (with_reducible exact LeO.refl _)
   | (with_reducible exact LeO.none _)
   | (with_reducible refine LeO.ite ?_ ?_)
   | (with_reducible refine LeO.bind ?_ (fun _ => ?_))
   | exact ih0 _ _
   | exact ih1 _ _
   | exact ih2 _ _ _
   | exact ih3 _ _ _ _ _
   | exact ih4 _ _ _
   | exact cohousingref01_Number.mono _ _
   | exact cohousingref01_Valid.mono _ _ _
   | exact LeO.none _
   | refine LeO.ite ?_ ?_
   | refine LeO.bind ?_ (fun _ => ?_)
  ·intro y0 y1 y2
   unfold cohousingref01_Parse.l0
   repeat' first
   | (with_reducible exact ih0 _ _)
   | (with_reducible exact ih1 _ _)
   | (with_reducible exact ih2 _ _ _)
   | (with_reducible exact ih3 _ _ _ _ _)
   | (with_reducible exact ih4 _ _ _)
   | (with_reducible exact cohousingref01_Number.mono _ _)
   | (with_reducible exact cohousingref01_Valid.mono _ _ _)
   | (with_reducible exact LeO.refl _)
   | (with_reducible exact LeO.none _)
   | (with_reducible refine LeO.ite ?_ ?_)
   | (with_reducible refine LeO.bind ?_ (fun _ => ?_))
   | exact ih0 _ _
   | exact ih1 _ _
   | exact ih2 _ _ _
   | exact ih3 _ _ _ _ _
   | exact ih4 _ _ _
   | exact cohousingref01_Number.mono _ _
   | exact cohousingref01_Valid.mono _ _ _
   | exact LeO.none _
   | refine LeO.ite ?_ ?_
   | refine LeO.bind ?_ (fun _ => ?_)
theorem cohousingref01_Parse.mono : ∀ a0 k, LeO (cohousingref01_Parse.f k a0) (cohousingref01_Parse.f (k + 1) a0) := by
 intro a0 k
 obtain ⟨ih0, ih1, ih2, ih3, ih4⟩ := cohousingref01_Parse.mono_l k
 unfold cohousingref01_Parse.f
 repeat' first
   | (with_reducible exact ih0 _ _)
   | (with_reducible exact ih1 _ _)
   | (with_reducible exact ih2 _ _ _)
   | (with_reducible exact ih3 _ _ _ _ _)
   | (with_reducible exact ih4 _ _ _)
   | (with_reducible exact cohousingref01_Number.mono _ _)
   | (with_reducible exact cohousingref01_Valid.mono _ _ _)
   | (with_reducible exact LeO.refl _)
   | (with_reducible exact LeO.none _)
   | (with_reducible refine LeO.ite ?_ ?_)
   | (with_reducible refine LeO.bind ?_ (fun _ => ?_))
   | exact ih0 _ _
   | exact ih1 _ _
   | exact ih2 _ _ _
   | exact ih3 _ _ _ _ _
   | exact ih4 _ _ _
   | exact cohousingref01_Number.mono _ _
   | exact cohousingref01_Valid.mono _ _ _
   | exact LeO.none _
   | refine LeO.ite ?_ ?_
   | refine LeO.bind ?_ (fun _ => ?_)
set_option maxHeartbeats 8000000 in
set_option maxRecDepth 100000 in
theorem cohousingref01_Parse.calls (k : Nat) (a0 : ByteArray) (r1 : Int) (r2 : Int) (r3 : Int) (w : World) (h : cohousingref01_Parse.f k a0 = some (r1, r2, r3)) :
  Calls Tryd.prog 32 #[.string a0] w fun e w' => e = .returned (.tuple #[.agg #[.int .i64 r1, .int .i64 r2], .int .i64 r3]) ∧ Below w.heap.size w w' := by
 have hu24 := Tryd.underlying24
 have HB := Aside0.mk (Below.refl w.heap.size w)
 have H : (if (a0.size : Int) > 0 then (if 0 < (a0.size : Int) then (cohousingref01_Parse.j0 k a0 ((bt a0 0) == 45)) else (none)) else (cohousingref01_Parse.j0 k a0 false)) = some (r1, r2, r3) := h
 clear h
 have HC2 := Aside0.mk H
 clear H
 go_enter Tryd.func32, Tryd.ntmps32
 go_upto_region 1 with (first | ((with_reducible refine gate_dst (N := 2) rfl ?_); refine box_event ?hg (N := 2) ?hd (cs := #[.int .i64 0, .int .i64 0]) (t := 24) ?hr ?_; (case hd => rfl); (case hg => rfl); (case hr => first | (go_simp; done) | (go_simp; rfl)); intro gb294 hg w3 hbox hb; have n0_ := Aside0.mk (bT (by repeat (first | (with_reducible first | exact HB.out | apply bA | apply bN | apply b1) | exact HB.out)) hb); have n1_ := Aside0.mk (hbox); have n2_ := Aside0.mk ((by rw [hg]; exact (bZ (by repeat (first | (with_reducible first | exact HB.out | apply bA | apply bN | apply b1) | exact HB.out))) : w.heap.size ≤ gb294)); have n3_ := n2_; clear HB; have HB := n0_; have BK294 := n1_; have GW294 := n2_; have GE294 := n3_; clear n0_ n1_ n2_ n3_; clear hb hbox hg))
 (try simp only [Act.put, List.setIfInBounds_toArray, List.set_cons_zero, List.set_cons_succ])
 go_cut [4] (fun v4 wc => ∃ (kq : Nat) (x4_1 : Bool), v4 = .bool x4_1 ∧ Aside0 (cohousingref01_Parse.j0 kq a0 x4_1 = some (r1, r2, r3)) ∧ Aside0 (kq ≤ k) ∧ Aside0 (wc.heap[gb294]? = some (.cells #[.int .i64 0, .int .i64 0] 24 (0, 0))) ∧ Aside0 (Below w.heap.size w wc))
 case first =>
  have H := HC2.out
  clear HC2
  by_cases c4 : (a0.size : Int) > 0
  ·rw [if_pos c4] at H
   have c4b0 : decide (0 < (a0.size : Int)) = true := dT c4
   have c4b1 : decide (0 < a0.size) = true := dT (by omega)
   clear c4
   (first | rw [c4b0] | (simp only [i64_w, i32_w]; rw [c4b0]) | skip)
   by_cases c5 : 0 < (a0.size : Int)
   ·rw [if_pos c5] at H
    have c5b0 : decide (0 < (a0.size : Int)) = true := dT c5
    have c5b1 : decide (0 < a0.size) = true := dT (by omega)
    clear c5
    have H' := Aside0.mk H
    clear H
    have p6 : 0 ≤ (0 : Int) := (by omega)
    have q6 : 0 < a0.size := (by have : (0 : Int) < (a0.size : Int) := oT (by first | (with_reducible assumption) | assumption); omega)
    have hx6 : ∀ h : 0 < a0.size, ((a0[0]'h).toNat : Int) = bt a0 0 := bt_at a0 0
    clear p6
    have qi6 : (0 < (a0.size : Int)) = True := eq_true (oT (by first | (with_reducible assumption) | assumption))
    replace q6 := eq_true q6
    go_wp2
    go_meet
    case rel => exact ⟨_, (((bt a0 0) == 45)), (by first | rfl | (simp; done) | (simp [*]; done)), H', ⟨by first | omega | exact Nat.le_refl _⟩, ⟨by (with_reducible repeat (first | refine kN ?_ _ | refine kD ?_ | refine kA ?_ _)); exact BK294.out⟩, ⟨by repeat (first | (with_reducible first | exact HB.out | apply bA | apply bN | apply b1 | refine bS ?_ GE294.out) | exact HB.out)⟩⟩
   ·rw [if_neg c5] at H
    exact absurd H (by simp)
  ·rw [if_neg c4] at H
   have c4b0 : decide (0 < (a0.size : Int)) = false := dF c4
   have c4b1 : decide (0 < a0.size) = false := dF (by omega)
   clear c4
   (first | rw [c4b0] | (simp only [i64_w, i32_w]; rw [c4b0]) | skip)
   have H' := Aside0.mk H
   clear H
   go_wp2
   go_meet
   case rel => exact ⟨_, (false), (by first | rfl | (simp; done) | (simp [*]; done)), H', ⟨by first | omega | exact Nat.le_refl _⟩, ⟨by (with_reducible repeat (first | refine kN ?_ _ | refine kD ?_ | refine kA ?_ _)); exact BK294.out⟩, ⟨by repeat (first | (with_reducible first | exact HB.out | apply bA | apply bN | apply b1 | refine bS ?_ GE294.out) | exact HB.out)⟩⟩
 case rest =>
  clear HC2
  try clear p2
  try clear c3
  try clear c4
  try clear c4b0
  try clear c4b1
  try clear c5
  try clear c5b0
  try clear c5b1
  try clear p6
  try clear q6
  try clear hx6
  try clear qi6
  try clear p6
  try clear q6
  obtain ⟨kq, x4_1, rfl, HA, HJ1, BK294, HB⟩ := hcut
  cases kq with
  | zero => exact absurd HA.out (by simp [cohousingref01_Parse.j0])
  | succ kj1 =>
   have H := HA.out
   clear HA
   simp only [cohousingref01_Parse.j0] at H
   have HC7 := Aside0.mk H
   clear H
   go_upto_if 19 with (fail)
   go_cut [0] (fun v0 wc => ∃ (kq : Nat) (x0_6 : ByteArray), v0 = .string x0_6 ∧ Aside0 (cohousingref01_Parse.j1 kq x0_6 x4_1 = some (r1, r2, r3)) ∧ Aside0 (kq ≤ kj1) ∧ Aside0 (wc.heap[gb294]? = some (.cells #[.int .i64 0, .int .i64 0] 24 (0, 0))) ∧ Aside0 (Below w.heap.size w wc))
   case first =>
    have H := HC7.out
    clear HC7
    by_cases c8 : x4_1 = true
    ·subst c8
     have H1 : (if 1 ≤ (a0.size : Int) then (cohousingref01_Parse.j1 kj1 (a0.extract 1 a0.size) true) else (none)) = some (r1, r2, r3) := by rw [if_pos rfl] at H; exact H
     clear H
     have H := H1
     clear H1
     by_cases c9 : 1 ≤ (a0.size : Int)
     ·rw [if_pos c9] at H
      have c9b0 := eq_true c9
      have c9b1 : decide (1 ≤ (a0.size : Int)) = true := dT c9
      clear c9
      have H' := Aside0.mk H
      clear H
      go_wp2
      go_meet
      case rel => exact ⟨_, (a0.extract 1 a0.size), (by first | rfl | (simp; done) | (simp [*]; done)), H', ⟨by have := HJ1.out; first | omega | exact Nat.le_refl _⟩, ⟨by (with_reducible repeat (first | refine kN ?_ _ | refine kD ?_ | refine kA ?_ _)); exact BK294.out⟩, ⟨by repeat (first | (with_reducible first | exact HB.out | apply bA | apply bN | apply b1 | refine bS ?_ GE294.out) | exact HB.out)⟩⟩
     ·rw [if_neg c9] at H
      exact absurd H (by simp)
    ·replace c8 := Bool.eq_false_iff.mpr c8
     subst c8
     have H1 : (cohousingref01_Parse.j1 kj1 a0 false) = some (r1, r2, r3) := by rw [if_neg (show ¬ (false = true) by decide)] at H; exact H
     clear H
     have H := H1
     clear H1
     have H' := Aside0.mk H
     clear H
     go_wp2
     go_meet
     case rel => exact ⟨_, (a0), (by first | rfl | (simp; done) | (simp [*]; done)), H', ⟨by have := HJ1.out; first | omega | exact Nat.le_refl _⟩, ⟨by (with_reducible repeat (first | refine kN ?_ _ | refine kD ?_ | refine kA ?_ _)); exact BK294.out⟩, ⟨by repeat (first | (with_reducible first | exact HB.out | apply bA | apply bN | apply b1 | refine bS ?_ GE294.out) | exact HB.out)⟩⟩
   case rest =>
    clear HC7
    try clear p2
    try clear c3
    try clear c4
    try clear c4b0
    try clear c4b1
    try clear c5
    try clear c5b0
    try clear c5b1
    try clear p6
    try clear q6
    try clear hx6
    try clear qi6
    try clear c8
    try clear c9
    try clear c9b0
    try clear c9b1
    try clear p2
    try clear p6
    try clear q6
    obtain ⟨kq, x0_6, rfl, HA, HJ6, BK294, HB⟩ := hcut
    cases kq with
    | zero => exact absurd HA.out (by simp [cohousingref01_Parse.j1])
    | succ kj6 =>
     have H := HA.out
     clear HA
     simp only [cohousingref01_Parse.j1] at H
     have HC10 := Aside0.mk H
     clear H
     go_upto_block 0 with (fail)
     go_cut [5] (fun v5 wc => ∃ (kq : Nat) (x5_9 : Int), v5 = .int .i64 x5_9 ∧ Aside0 (cohousingref01_Parse.j3 kq x0_6 x4_1 x5_9 = some (r1, r2, r3)) ∧ Aside0 (kq ≤ kj6) ∧ Aside0 (wc.heap[gb294]? = some (.cells #[.int .i64 0, .int .i64 0] 24 (0, 0))) ∧ Aside0 (Below w.heap.size w wc))
     case first =>
      have H := HC10.out
      clear HC10
      have H' := Aside0.mk H
      clear H
      go_wp2
      go_loopg [5] kj6 (fun kq v5 w' => ∃ (x5_3 : Int), v5 = .int .i64 x5_3 ∧ Aside0 (cohousingref01_Parse.l0 kq x0_6 x4_1 x5_3 = some (r1, r2, r3)) ∧ Aside0 (kq ≤ kj6) ∧ Aside0 (w'.heap[gb294]? = some (.cells #[.int .i64 0, .int .i64 0] 24 (0, 0))) ∧ Aside0 (Below w.heap.size w w'))
      case atStart => exact ⟨(0), (by first | rfl | (simp; done) | (simp [*]; done)), H', ⟨Nat.le_refl _⟩, ⟨by (with_reducible repeat (first | refine kN ?_ _ | refine kD ?_ | refine kA ?_ _)); exact BK294.out⟩, ⟨by repeat (first | (with_reducible first | exact HB.out | apply bA | apply bN | apply b1 | refine bS ?_ GE294.out) | exact HB.out)⟩⟩
      case round =>
       clear H'
       try clear p2
       try clear c3
       try clear c4
       try clear c4b0
       try clear c4b1
       try clear c5
       try clear c5b0
       try clear c5b1
       try clear p6
       try clear q6
       try clear hx6
       try clear qi6
       try clear c8
       try clear c9
       try clear c9b0
       try clear c9b1
       try clear p2
       try clear p6
       try clear q6
       obtain ⟨x5_3, rfl, HA, HK3, BK294, HB⟩ := hrel
       cases gk with
       | zero => exact absurd HA.out (by simp [cohousingref01_Parse.l0])
       | succ k3 =>
        have H := HA.out
        clear HA
        simp only [cohousingref01_Parse.l0] at H
        by_cases c11 : x5_3 < (x0_6.size : Int)
        ·rw [if_pos c11] at H
         have c11b0 : decide (x5_3 < (x0_6.size : Int)) = true := dT c11
         clear c11
         (first | rw [c11b0] | (simp only [i64_w, i32_w]; rw [c11b0]) | skip)
         by_cases c12 : 0 ≤ x5_3
         ·rw [if_pos c12] at H
          have c12b0 : decide (0 ≤ x5_3) = true := dT c12
          clear c12
          by_cases c14 : (bt x0_6 x5_3) = 47
          ·rw [if_pos c14] at H
           have c14b0 : ((bt x0_6 x5_3) == 47) = true := beq_iff_eq.mpr c14
           have c14b1 : ((bt x0_6 x5_3) != 47) = false := bne_eq_false_iff_eq.mpr c14
           clear c14
           have H' := Aside0.mk H
           clear H
           have p13 : 0 ≤ (x5_3 : Int) := oT (by first | (with_reducible assumption) | assumption)
           have q13 : x5_3 < (x0_6.size : Int) := oT (by first | (with_reducible assumption) | assumption)
           have hx13 := bt_at x0_6 x5_3
           replace p13 := eq_true p13
           replace q13 := eq_true q13
           go_wp2
           go_meet
           case rel => exact ⟨_, (x5_3), (by first | rfl | (simp; done) | (simp [*]; done)), H', ⟨by have := HJ1.out; have := HJ6.out; have := HK3.out; first | omega | exact Nat.le_refl _⟩, ⟨by (with_reducible repeat (first | refine kN ?_ _ | refine kD ?_ | refine kA ?_ _)); exact BK294.out⟩, ⟨by repeat (first | (with_reducible first | exact HB.out | apply bA | apply bN | apply b1 | refine bS ?_ GE294.out) | exact HB.out)⟩⟩
          ·rw [if_neg c14] at H
           have c14b0 : ((bt x0_6 x5_3) == 47) = false := beq_eq_false_iff_ne.mpr c14
           have c14b1 : ((bt x0_6 x5_3) != 47) = true := bne_iff_ne.mpr c14
           have H' := Aside0.mk H
           clear H
           have p13 : 0 ≤ (x5_3 : Int) := oT (by first | (with_reducible assumption) | assumption)
           have q13 : x5_3 < (x0_6.size : Int) := oT (by first | (with_reducible assumption) | assumption)
           have hx13 := bt_at x0_6 x5_3
           replace p13 := eq_true p13
           replace q13 := eq_true q13
           go_wp2
           go_roundg k3
           case measure => have := HJ1.out; have := HJ6.out; have := HK3.out; omega
           case rel => exact ⟨(wrap64 (x5_3 + 1)), (by first | rfl | (simp; done) | (simp [*]; done)), H', ⟨by have := HJ1.out; have := HJ6.out; have := HK3.out; omega⟩, ⟨by (with_reducible repeat (first | refine kN ?_ _ | refine kD ?_ | refine kA ?_ _)); exact BK294.out⟩, ⟨by repeat (first | (with_reducible first | exact HB.out | apply bA | apply bN | apply b1 | refine bS ?_ GE294.out) | exact HB.out)⟩⟩
         ·rw [if_neg c12] at H
          exact absurd H (by simp)
        ·rw [if_neg c11] at H
         have c11b0 : decide (x5_3 < (x0_6.size : Int)) = false := dF c11
         clear c11
         (first | rw [c11b0] | (simp only [i64_w, i32_w]; rw [c11b0]) | skip)
         have H' := Aside0.mk H
         clear H
         go_wp2
         go_meet
         case rel => exact ⟨_, (x5_3), (by first | rfl | (simp; done) | (simp [*]; done)), H', ⟨by have := HJ1.out; have := HJ6.out; have := HK3.out; first | omega | exact Nat.le_refl _⟩, ⟨by (with_reducible repeat (first | refine kN ?_ _ | refine kD ?_ | refine kA ?_ _)); exact BK294.out⟩, ⟨by repeat (first | (with_reducible first | exact HB.out | apply bA | apply bN | apply b1 | refine bS ?_ GE294.out) | exact HB.out)⟩⟩
     case rest =>
      clear HC10
      try clear c1
      try clear p1
      try clear q1
      try clear hx1
      try clear p2
      try clear c3
      try clear c4
      try clear c4b0
      try clear c4b1
      try clear c5
      try clear c5b0
      try clear c5b1
      try clear p6
      try clear q6
      try clear hx6
      try clear qi6
      try clear c8
      try clear c9
      try clear c9b0
      try clear c9b1
      try clear c11
      try clear c11b0
      try clear c12
      try clear c12b0
      try clear p13
      try clear q13
      try clear hx13
      try clear c14
      try clear c14b0
      try clear c14b1
      try clear p13
      try clear p2
      try clear p6
      try clear q13
      try clear q6
      obtain ⟨kq, x5_9, rfl, HA, HJ9, BK294, HB⟩ := hcut
      cases kq with
      | zero => exact absurd HA.out (by simp [cohousingref01_Parse.j3])
      | succ kj9 =>
       have H := HA.out
       clear HA
       simp only [cohousingref01_Parse.j3] at H
       by_cases c15 : 0 ≤ x5_9
       ·rw [if_pos c15] at H
        have c15b0 := eq_true c15
        have c15b1 : decide (0 ≤ x5_9) = true := dT c15
        clear c15
        by_cases c16 : x5_9 ≤ (x0_6.size : Int)
        ·rw [if_pos c16] at H
         have c16b0 := eq_true c16
         have c16b1 : decide (x5_9 ≤ (x0_6.size : Int)) = true := dT c16
         clear c16
         replace H := Option.bind_eq_some_iff.mp H
         obtain ⟨⟨t296, t297⟩, A170, H⟩ := H
         replace H : (if x5_9 < (x0_6.size : Int) then (if 0 ≤ (wrap64 (x5_9 + 1)) then (if (wrap64 (x5_9 + 1)) ≤ (x0_6.size : Int) then ((cohousingref01_Number.f kj9 (x0_6.extract ((wrap64 (x5_9 + 1)) : Int).toNat x0_6.size)).bind fun bt298 => (if t297 = true then (if bt298.2 = true then (cohousingref01_Parse.j4 kj9 x4_1 t296 (bt298.1 != 1) t296 bt298.1) else (cohousingref01_Parse.j4 kj9 x4_1 t296 false t296 bt298.1)) else (cohousingref01_Parse.j4 kj9 x4_1 t296 false t296 bt298.1))) else (none)) else (none)) else (cohousingref01_Parse.j4 kj9 x4_1 t296 t297 t296 1)) = some (r1, r2, r3) := H
         have A17 := Aside0.mk A170
         clear A170
         have HC18 := Aside0.mk H
         clear H
         go_upto_if 47 with (first | ((with_reducible refine gate_dst (N := 6) rfl ?_); refine box_event ?hg (N := 6) ?hd (cs := #[.int .i64 0, .int .i64 0]) (t := 24) ?hr ?_; (case hd => rfl); (case hg => rfl); (case hr => first | (go_simp; done) | (go_simp; rfl)); intro gb295 hg w19 hbox hb; have n0_ := Aside0.mk (kB (g := gb294) (o := .cells #[.int .i64 0, .int .i64 0] 24 (0, 0)) (by (with_reducible repeat (first | refine kN ?_ _ | refine kD ?_ | refine kA ?_ _)); exact BK294.out) hb); have n1_ := Aside0.mk (bT (by repeat (first | (with_reducible first | exact HB.out | apply bA | apply bN | apply b1 | refine bS ?_ GE294.out) | exact HB.out)) hb); have n2_ := Aside0.mk (hbox); have n3_ := Aside0.mk ((by rw [hg]; exact (bZ (by repeat (first | (with_reducible first | exact HB.out | apply bA | apply bN | apply b1 | refine bS ?_ GE294.out) | exact HB.out))) : w.heap.size ≤ gb295)); have n4_ := n3_; have n5_ := Aside0.mk ((by rw [hg]; exact Nat.ne_of_lt (blk_lt (g := gb294) (o := .cells #[.int .i64 0, .int .i64 0] 24 (0, 0)) (by (with_reducible repeat (first | refine kN ?_ _ | refine kD ?_ | refine kA ?_ _)); exact BK294.out)) : gb294 ≠ gb295)); have n6_ := Aside0.mk n5_.out.symm; clear BK294; clear HB; have BK294 := n0_; have HB := n1_; have BK295 := n2_; have GW295 := n3_; have GE295 := n4_; have NB294_295 := n5_; have NB295_294 := n6_; clear n0_ n1_ n2_ n3_ n4_ n5_ n6_; clear hb hbox hg; have hnb20 := NB295_294.out; have hnc20 := NB294_295.out; have hcz21_0 : w19.cell? ⟨gb295, 0, none⟩ = some (.int .i64 0) := (kC BK295.out 0).trans rfl; have hcz21_1 : w19.cell? ⟨gb295, 1, none⟩ = some (.int .i64 0) := (kC BK295.out 1).trans rfl; have hfz21_0 := blk_frozen BK295.out 0; have hfz21_1 := blk_frozen BK295.out 1) | ((with_reducible refine gate_callee (f := 49) rfl ?_); refine goesL_ (some 39) rfl rfl Tryd.func49 (by kernel_rfl) rfl #[.string (x0_6.extract 0 (x5_9 : Int).toNat)] rfl (by (try simp only [List.map_toArray, List.map_cons, List.map_nil]); first | done | rfl | (simp only [List.length_drop, List.length_take]; rfl)) ?_; (with_reducible refine (cohousingref01_Number.calls kj9 (x0_6.extract 0 (x5_9 : Int).toNat) t296 t297 _ A17.out).mono ?_); rintro e w22 ⟨rfl, hb⟩; refine ⟨_, rfl, ?_⟩; have n0_ := Aside0.mk (kB (g := gb294) (o := .cells #[.int .i64 0, .int .i64 0] 24 (0, 0)) (by (with_reducible repeat (first | refine kN ?_ _ | refine kD ?_ | refine kA ?_ _)); refine kF ?_ NB294_295.out _; (with_reducible repeat (first | refine kN ?_ _ | refine kD ?_ | refine kA ?_ _)); refine kF ?_ NB294_295.out _; (with_reducible repeat (first | refine kN ?_ _ | refine kD ?_ | refine kA ?_ _)); exact BK294.out) hb); have n1_ := Aside0.mk (kB (g := gb295) (o := .cells #[.int .i64 0, .int .i64 1] 24 (0, 0)) (by (with_reducible repeat (first | refine kN ?_ _ | refine kD ?_ | refine kA ?_ _)); refine blk_put (cs := #[.int .i64 0, .int .i64 0]) ?_ 1 _ rfl; (with_reducible repeat (first | refine kN ?_ _ | refine kD ?_ | refine kA ?_ _)); refine blk_put (cs := #[.int .i64 0, .int .i64 0]) ?_ 0 _ rfl; (with_reducible repeat (first | refine kN ?_ _ | refine kD ?_ | refine kA ?_ _)); exact BK295.out) hb); have n2_ := Aside0.mk (bT (by repeat (first | (with_reducible first | exact HB.out | apply bA | apply bN | apply b1 | refine bS ?_ GE294.out | refine bS ?_ GE295.out) | exact HB.out)) hb); clear BK294; clear BK295; clear HB; have BK294 := n0_; have BK295 := n1_; have HB := n2_; clear n0_ n1_ n2_; (try clear hb); (try clear hb2); (try clear hk); (try clear hi); have hcz23_0 : w22.cell? ⟨gb295, 0, none⟩ = some (.int .i64 0) := (kC BK295.out 0).trans rfl; have hcz23_1 : w22.cell? ⟨gb295, 1, none⟩ = some (.int .i64 1) := (kC BK295.out 1).trans rfl; have hfz23_0 := blk_frozen BK295.out 0; have hfz23_1 := blk_frozen BK295.out 1))
         (try simp only [Act.put, List.setIfInBounds_toArray, List.set_cons_zero, List.set_cons_succ])
         go_cut [8] (fun v8 wc => ∃ (kq : Nat) (x8_17 : Bool) (x296001_17 : Int), v8 = .bool x8_17 ∧ Aside0 (cohousingref01_Parse.j4 kq x4_1 t296 x8_17 t296 x296001_17 = some (r1, r2, r3)) ∧ Aside0 (kq ≤ kj9) ∧ Aside0 (wc.heap[gb294]? = some (.cells #[.int .i64 0, .int .i64 0] 24 (0, 0))) ∧ Aside0 (wc.heap[gb295]? = some (.cells #[.int .i64 t296, .int .i64 x296001_17] 24 (0, 0))) ∧ Aside0 (Below w.heap.size w wc))
         case first =>
          have H := HC18.out
          clear HC18
          by_cases c24 : x5_9 < (x0_6.size : Int)
          ·rw [if_pos c24] at H
           have c24b0 : decide (x5_9 < (x0_6.size : Int)) = true := dT c24
           clear c24
           (first | rw [c24b0] | (simp only [i64_w, i32_w]; rw [c24b0]) | skip)
           obtain ⟨ji25, hji25⟩ : ∃ j_ : Int, (wrap64 (x5_9 + 1)) = j_ := ⟨_, rfl⟩
           replace H : (if 0 ≤ (ji25) then (if (ji25) ≤ (x0_6.size : Int) then ((cohousingref01_Number.f kj9 (x0_6.extract ((ji25) : Int).toNat x0_6.size)).bind fun bt298 => (if t297 = true then (if bt298.2 = true then (cohousingref01_Parse.j4 kj9 x4_1 t296 (bt298.1 != 1) t296 bt298.1) else (cohousingref01_Parse.j4 kj9 x4_1 t296 false t296 bt298.1)) else (cohousingref01_Parse.j4 kj9 x4_1 t296 false t296 bt298.1))) else (none)) else (none)) = some (r1, r2, r3) := by first | (rw [hji25] at H; exact H) | (simp only [hji25] at H ⊢; exact H)
           have hji25w : (IntKind.i64.wrap (x5_9 + 1)) = ji25 := (i64_w _).trans hji25
           by_cases c26 : 0 ≤ (ji25)
           ·rw [if_pos c26] at H
            have c26b0 := eq_true c26
            have c26b1 : decide (0 ≤ (ji25)) = true := dT c26
            clear c26
            by_cases c27 : (ji25) ≤ (x0_6.size : Int)
            ·rw [if_pos c27] at H
             have c27b0 := eq_true c27
             have c27b1 : decide ((ji25) ≤ (x0_6.size : Int)) = true := dT c27
             clear c27
             replace H := Option.bind_eq_some_iff.mp H
             obtain ⟨⟨t298, t299⟩, A280, H⟩ := H
             replace H : (if t297 = true then (if t299 = true then (cohousingref01_Parse.j4 kj9 x4_1 t296 (t298 != 1) t296 t298) else (cohousingref01_Parse.j4 kj9 x4_1 t296 false t296 t298)) else (cohousingref01_Parse.j4 kj9 x4_1 t296 false t296 t298)) = some (r1, r2, r3) := H
             have A28 := Aside0.mk A280
             clear A280
             by_cases c29 : t297 = true
             ·subst c29
              have H1 : (if t299 = true then (cohousingref01_Parse.j4 kj9 x4_1 t296 (t298 != 1) t296 t298) else (cohousingref01_Parse.j4 kj9 x4_1 t296 false t296 t298)) = some (r1, r2, r3) := by rw [if_pos rfl] at H; exact H
              clear H
              have H := H1
              clear H1
              by_cases c30 : t299 = true
              ·subst c30
               have H1 : (cohousingref01_Parse.j4 kj9 x4_1 t296 (t298 != 1) t296 t298) = some (r1, r2, r3) := by rw [if_pos rfl] at H; exact H
               clear H
               have H := H1
               clear H1
               have H' := Aside0.mk H
               clear H
               go_wp2_with (first | ((with_reducible refine gate_callee (f := 49) rfl ?_); refine goesL_ (some 53) rfl rfl Tryd.func49 (by kernel_rfl) rfl #[.string (x0_6.extract ((ji25) : Int).toNat x0_6.size)] rfl (by (try simp only [List.map_toArray, List.map_cons, List.map_nil]); first | done | (simp only [hji25]; rfl) | rfl | (simp only [List.length_drop, List.length_take]; rfl)) ?_; (with_reducible refine (cohousingref01_Number.calls kj9 (x0_6.extract ((ji25) : Int).toNat x0_6.size) t298 true _ A28.out).mono ?_); rintro e w31 ⟨rfl, hb⟩; refine ⟨_, rfl, ?_⟩; have n0_ := Aside0.mk (kB (g := gb294) (o := .cells #[.int .i64 0, .int .i64 0] 24 (0, 0)) (by (with_reducible repeat (first | refine kN ?_ _ | refine kD ?_ | refine kA ?_ _)); refine kF ?_ NB294_295.out _; (with_reducible repeat (first | refine kN ?_ _ | refine kD ?_ | refine kA ?_ _)); exact BK294.out) hb); have n1_ := Aside0.mk (kB (g := gb295) (o := .cells #[.int .i64 t296, .int .i64 1] 24 (0, 0)) (by (with_reducible repeat (first | refine kN ?_ _ | refine kD ?_ | refine kA ?_ _)); refine blk_put (cs := #[.int .i64 0, .int .i64 1]) ?_ 0 _ rfl; (with_reducible repeat (first | refine kN ?_ _ | refine kD ?_ | refine kA ?_ _)); exact BK295.out) hb); have n2_ := Aside0.mk (bT (by repeat (first | (with_reducible first | exact HB.out | apply bA | apply bN | apply b1 | refine bS ?_ GE294.out | refine bS ?_ GE295.out) | exact HB.out)) hb); clear BK294; clear BK295; clear HB; have BK294 := n0_; have BK295 := n1_; have HB := n2_; clear n0_ n1_ n2_; (try clear hb); (try clear hb2); (try clear hk); (try clear hi); have hnb32 := NB295_294.out; have hnc32 := NB294_295.out; have hcz33_0 : w31.cell? ⟨gb295, 0, none⟩ = some (.int .i64 t296) := (kC BK295.out 0).trans rfl; have hcz33_1 : w31.cell? ⟨gb295, 1, none⟩ = some (.int .i64 1) := (kC BK295.out 1).trans rfl; have hfz33_0 := blk_frozen BK295.out 0; have hfz33_1 := blk_frozen BK295.out 1))
               go_meet
               case rel => exact ⟨_, ((t298 != 1)), (t298), (by first | rfl | (simp; done) | (simp [*]; done)), H', ⟨by have := HJ1.out; have := HJ6.out; have := HJ9.out; first | omega | exact Nat.le_refl _⟩, ⟨by (with_reducible repeat (first | refine kN ?_ _ | refine kD ?_ | refine kA ?_ _)); refine kF ?_ NB294_295.out _; (with_reducible repeat (first | refine kN ?_ _ | refine kD ?_ | refine kA ?_ _)); exact BK294.out⟩, ⟨by (with_reducible repeat (first | refine kN ?_ _ | refine kD ?_ | refine kA ?_ _)); refine blk_put (cs := #[.int .i64 t296, .int .i64 1]) ?_ 1 _ rfl; (with_reducible repeat (first | refine kN ?_ _ | refine kD ?_ | refine kA ?_ _)); exact BK295.out⟩, ⟨by repeat (first | (with_reducible first | exact HB.out | apply bA | apply bN | apply b1 | refine bS ?_ GE294.out | refine bS ?_ GE295.out) | exact HB.out)⟩⟩
              ·replace c30 := Bool.eq_false_iff.mpr c30
               subst c30
               have H1 : (cohousingref01_Parse.j4 kj9 x4_1 t296 false t296 t298) = some (r1, r2, r3) := by rw [if_neg (show ¬ (false = true) by decide)] at H; exact H
               clear H
               have H := H1
               clear H1
               have H' := Aside0.mk H
               clear H
               go_wp2_with (first | ((with_reducible refine gate_callee (f := 49) rfl ?_); refine goesL_ (some 53) rfl rfl Tryd.func49 (by kernel_rfl) rfl #[.string (x0_6.extract ((ji25) : Int).toNat x0_6.size)] rfl (by (try simp only [List.map_toArray, List.map_cons, List.map_nil]); first | done | (simp only [hji25]; rfl) | rfl | (simp only [List.length_drop, List.length_take]; rfl)) ?_; (with_reducible refine (cohousingref01_Number.calls kj9 (x0_6.extract ((ji25) : Int).toNat x0_6.size) t298 false _ A28.out).mono ?_); rintro e w34 ⟨rfl, hb⟩; refine ⟨_, rfl, ?_⟩; have n0_ := Aside0.mk (kB (g := gb294) (o := .cells #[.int .i64 0, .int .i64 0] 24 (0, 0)) (by (with_reducible repeat (first | refine kN ?_ _ | refine kD ?_ | refine kA ?_ _)); refine kF ?_ NB294_295.out _; (with_reducible repeat (first | refine kN ?_ _ | refine kD ?_ | refine kA ?_ _)); exact BK294.out) hb); have n1_ := Aside0.mk (kB (g := gb295) (o := .cells #[.int .i64 t296, .int .i64 1] 24 (0, 0)) (by (with_reducible repeat (first | refine kN ?_ _ | refine kD ?_ | refine kA ?_ _)); refine blk_put (cs := #[.int .i64 0, .int .i64 1]) ?_ 0 _ rfl; (with_reducible repeat (first | refine kN ?_ _ | refine kD ?_ | refine kA ?_ _)); exact BK295.out) hb); have n2_ := Aside0.mk (bT (by repeat (first | (with_reducible first | exact HB.out | apply bA | apply bN | apply b1 | refine bS ?_ GE294.out | refine bS ?_ GE295.out) | exact HB.out)) hb); clear BK294; clear BK295; clear HB; have BK294 := n0_; have BK295 := n1_; have HB := n2_; clear n0_ n1_ n2_; (try clear hb); (try clear hb2); (try clear hk); (try clear hi); have hnb35 := NB295_294.out; have hnc35 := NB294_295.out; have hcz36_0 : w34.cell? ⟨gb295, 0, none⟩ = some (.int .i64 t296) := (kC BK295.out 0).trans rfl; have hcz36_1 : w34.cell? ⟨gb295, 1, none⟩ = some (.int .i64 1) := (kC BK295.out 1).trans rfl; have hfz36_0 := blk_frozen BK295.out 0; have hfz36_1 := blk_frozen BK295.out 1))
               go_meet
               case rel => exact ⟨_, (false), (t298), (by first | rfl | (simp; done) | (simp [*]; done)), H', ⟨by have := HJ1.out; have := HJ6.out; have := HJ9.out; first | omega | exact Nat.le_refl _⟩, ⟨by (with_reducible repeat (first | refine kN ?_ _ | refine kD ?_ | refine kA ?_ _)); refine kF ?_ NB294_295.out _; (with_reducible repeat (first | refine kN ?_ _ | refine kD ?_ | refine kA ?_ _)); exact BK294.out⟩, ⟨by (with_reducible repeat (first | refine kN ?_ _ | refine kD ?_ | refine kA ?_ _)); refine blk_put (cs := #[.int .i64 t296, .int .i64 1]) ?_ 1 _ rfl; (with_reducible repeat (first | refine kN ?_ _ | refine kD ?_ | refine kA ?_ _)); exact BK295.out⟩, ⟨by repeat (first | (with_reducible first | exact HB.out | apply bA | apply bN | apply b1 | refine bS ?_ GE294.out | refine bS ?_ GE295.out) | exact HB.out)⟩⟩
             ·replace c29 := Bool.eq_false_iff.mpr c29
              subst c29
              have H1 : (cohousingref01_Parse.j4 kj9 x4_1 t296 false t296 t298) = some (r1, r2, r3) := by rw [if_neg (show ¬ (false = true) by decide)] at H; exact H
              clear H
              have H := H1
              clear H1
              have H' := Aside0.mk H
              clear H
              go_wp2_with (first | ((with_reducible refine gate_callee (f := 49) rfl ?_); refine goesL_ (some 53) rfl rfl Tryd.func49 (by kernel_rfl) rfl #[.string (x0_6.extract ((ji25) : Int).toNat x0_6.size)] rfl (by (try simp only [List.map_toArray, List.map_cons, List.map_nil]); first | done | (simp only [hji25]; rfl) | rfl | (simp only [List.length_drop, List.length_take]; rfl)) ?_; (with_reducible refine (cohousingref01_Number.calls kj9 (x0_6.extract ((ji25) : Int).toNat x0_6.size) t298 t299 _ A28.out).mono ?_); rintro e w37 ⟨rfl, hb⟩; refine ⟨_, rfl, ?_⟩; have n0_ := Aside0.mk (kB (g := gb294) (o := .cells #[.int .i64 0, .int .i64 0] 24 (0, 0)) (by (with_reducible repeat (first | refine kN ?_ _ | refine kD ?_ | refine kA ?_ _)); refine kF ?_ NB294_295.out _; (with_reducible repeat (first | refine kN ?_ _ | refine kD ?_ | refine kA ?_ _)); exact BK294.out) hb); have n1_ := Aside0.mk (kB (g := gb295) (o := .cells #[.int .i64 t296, .int .i64 1] 24 (0, 0)) (by (with_reducible repeat (first | refine kN ?_ _ | refine kD ?_ | refine kA ?_ _)); refine blk_put (cs := #[.int .i64 0, .int .i64 1]) ?_ 0 _ rfl; (with_reducible repeat (first | refine kN ?_ _ | refine kD ?_ | refine kA ?_ _)); exact BK295.out) hb); have n2_ := Aside0.mk (bT (by repeat (first | (with_reducible first | exact HB.out | apply bA | apply bN | apply b1 | refine bS ?_ GE294.out | refine bS ?_ GE295.out) | exact HB.out)) hb); clear BK294; clear BK295; clear HB; have BK294 := n0_; have BK295 := n1_; have HB := n2_; clear n0_ n1_ n2_; (try clear hb); (try clear hb2); (try clear hk); (try clear hi); have hnb38 := NB295_294.out; have hnc38 := NB294_295.out; have hcz39_0 : w37.cell? ⟨gb295, 0, none⟩ = some (.int .i64 t296) := (kC BK295.out 0).trans rfl; have hcz39_1 : w37.cell? ⟨gb295, 1, none⟩ = some (.int .i64 1) := (kC BK295.out 1).trans rfl; have hfz39_0 := blk_frozen BK295.out 0; have hfz39_1 := blk_frozen BK295.out 1))
              go_meet
              case rel => exact ⟨_, (false), (t298), (by first | rfl | (simp; done) | (simp [*]; done)), H', ⟨by have := HJ1.out; have := HJ6.out; have := HJ9.out; first | omega | exact Nat.le_refl _⟩, ⟨by (with_reducible repeat (first | refine kN ?_ _ | refine kD ?_ | refine kA ?_ _)); refine kF ?_ NB294_295.out _; (with_reducible repeat (first | refine kN ?_ _ | refine kD ?_ | refine kA ?_ _)); exact BK294.out⟩, ⟨by (with_reducible repeat (first | refine kN ?_ _ | refine kD ?_ | refine kA ?_ _)); refine blk_put (cs := #[.int .i64 t296, .int .i64 1]) ?_ 1 _ rfl; (with_reducible repeat (first | refine kN ?_ _ | refine kD ?_ | refine kA ?_ _)); exact BK295.out⟩, ⟨by repeat (first | (with_reducible first | exact HB.out | apply bA | apply bN | apply b1 | refine bS ?_ GE294.out | refine bS ?_ GE295.out) | exact HB.out)⟩⟩
            ·rw [if_neg c27] at H
             exact absurd H (by simp)
           ·rw [if_neg c26] at H
            exact absurd H (by simp)
          ·rw [if_neg c24] at H
           have c24b0 : decide (x5_9 < (x0_6.size : Int)) = false := dF c24
           clear c24
           (first | rw [c24b0] | (simp only [i64_w, i32_w]; rw [c24b0]) | skip)
           have H' := Aside0.mk H
           clear H
           go_wp2
           go_meet
           case rel => exact ⟨_, (t297), (1), (by first | rfl | (simp; done) | (simp [*]; done)), H', ⟨by have := HJ1.out; have := HJ6.out; have := HJ9.out; first | omega | exact Nat.le_refl _⟩, ⟨by (with_reducible repeat (first | refine kN ?_ _ | refine kD ?_ | refine kA ?_ _)); refine kF ?_ NB294_295.out _; (with_reducible repeat (first | refine kN ?_ _ | refine kD ?_ | refine kA ?_ _)); exact BK294.out⟩, ⟨by (with_reducible repeat (first | refine kN ?_ _ | refine kD ?_ | refine kA ?_ _)); refine blk_put (cs := #[.int .i64 0, .int .i64 1]) ?_ 0 _ rfl; (with_reducible repeat (first | refine kN ?_ _ | refine kD ?_ | refine kA ?_ _)); exact BK295.out⟩, ⟨by repeat (first | (with_reducible first | exact HB.out | apply bA | apply bN | apply b1 | refine bS ?_ GE294.out | refine bS ?_ GE295.out) | exact HB.out)⟩⟩
         case rest =>
          clear HC18
          try clear c1
          try clear p1
          try clear q1
          try clear hx1
          try clear c2
          try clear p2
          try clear c3
          try clear c4
          try clear c4b0
          try clear c4b1
          try clear c5
          try clear c5b0
          try clear c5b1
          try clear p6
          try clear q6
          try clear hx6
          try clear qi6
          try clear c8
          try clear c9
          try clear c9b0
          try clear c9b1
          try clear c11
          try clear c11b0
          try clear c12
          try clear c12b0
          try clear p13
          try clear q13
          try clear hx13
          try clear c14
          try clear c14b0
          try clear c14b1
          try clear c15
          try clear c15b0
          try clear c15b1
          try clear c16
          try clear c16b0
          try clear c16b1
          try clear c20
          try clear c24
          try clear c24b0
          try clear c26
          try clear c26b0
          try clear c26b1
          try clear c27
          try clear c27b0
          try clear c27b1
          try clear c29
          try clear c30
          try clear c32
          try clear c35
          try clear c38
          try clear hcz21_0
          try clear hcz21_1
          try clear hcz23_0
          try clear hcz23_1
          try clear hcz33_0
          try clear hcz33_1
          try clear hcz36_0
          try clear hcz36_1
          try clear hcz39_0
          try clear hcz39_1
          try clear hfz21_0
          try clear hfz21_1
          try clear hfz23_0
          try clear hfz23_1
          try clear hfz33_0
          try clear hfz33_1
          try clear hfz36_0
          try clear hfz36_1
          try clear hfz39_0
          try clear hfz39_1
          try clear p1
          try clear p13
          try clear p2
          try clear p6
          try clear q1
          try clear q13
          try clear q6
          obtain ⟨kq, x8_17, x296001_17, rfl, HA, HJ17, BK294, BK295, HB⟩ := hcut
          cases kq with
          | zero => exact absurd HA.out (by simp [cohousingref01_Parse.j4])
          | succ kj17 =>
           have H := HA.out
           clear HA
           simp only [cohousingref01_Parse.j4] at H
           by_cases c40 : x4_1 = true
           ·subst c40
            have H1 : (if x8_17 = true then (if t296 = 0 then (some (0, 0, 8)) else ((cohousingref01_Valid.f kj17 (wrap64 (-t296)) x296001_17).bind fun t300 => (if t300 = true then (some (wrap64 (-t296), x296001_17, 0)) else (some (0, 0, 8))))) else (some (0, 0, 8))) = some (r1, r2, r3) := by rw [if_pos rfl] at H; exact H
            clear H
            have H := H1
            clear H1
            by_cases c41 : x8_17 = true
            ·subst c41
             have H1 : (if t296 = 0 then (some (0, 0, 8)) else ((cohousingref01_Valid.f kj17 (wrap64 (-t296)) x296001_17).bind fun t300 => (if t300 = true then (some (wrap64 (-t296), x296001_17, 0)) else (some (0, 0, 8))))) = some (r1, r2, r3) := by rw [if_pos rfl] at H; exact H
             clear H
             have H := H1
             clear H1
             by_cases c42 : t296 = 0
             ·rw [if_pos c42] at H
              have c42b0 : (t296 == 0) = true := beq_iff_eq.mpr c42
              have c42b1 : (t296 != 0) = false := bne_eq_false_iff_eq.mpr c42
              clear c42
              simp only [Option.some.injEq, Prod.mk.injEq] at H
              obtain ⟨rfl, rfl, rfl⟩ := H
              have hnb43 := NB295_294.out
              have hnc43 := NB294_295.out
              have hcz44_0 : wc.cell? ⟨gb295, 0, none⟩ = some (.int .i64 t296) := (kC BK295.out 0).trans rfl
              have hcz44_1 : wc.cell? ⟨gb295, 1, none⟩ = some (.int .i64 x296001_17) := (kC BK295.out 1).trans rfl
              have hfz44_0 := blk_frozen BK295.out 0
              have hfz44_1 := blk_frozen BK295.out 1
              have hcz45_0 : wc.cell? ⟨gb294, 0, none⟩ = some (.int .i64 0) := (kC BK294.out 0).trans rfl
              have hcz45_1 : wc.cell? ⟨gb294, 1, none⟩ = some (.int .i64 0) := (kC BK294.out 1).trans rfl
              have hfz45_0 := blk_frozen BK294.out 0
              have hfz45_1 := blk_frozen BK294.out 1
              go_wp2
              refine bodyPost_ret (results_ct rfl _ _ gb294 24 #[.int .i64 0, .int .i64 0] (0, 0) _ rfl (by (with_reducible repeat (first | refine kN ?_ _ | refine kD ?_ | refine kA ?_ _)); refine blk_put (cs := #[.int .i64 0, .int .i64 0]) ?_ 1 _ rfl; (with_reducible repeat (first | refine kN ?_ _ | refine kD ?_ | refine kA ?_ _)); refine blk_put (cs := #[.int .i64 0, .int .i64 0]) ?_ 0 _ rfl; (with_reducible repeat (first | refine kN ?_ _ | refine kD ?_ | refine kA ?_ _)); refine kF ?_ NB294_295.out _; (with_reducible repeat (first | refine kN ?_ _ | refine kD ?_ | refine kA ?_ _)); exact BK294.out) Tryd.underlying24 rfl (by kernel_rfl)) rfl ?_
              exact ⟨by first | rfl | (simp [errW_none, errW_some] <;> rfl) | (simp [*, errW_none, errW_some] <;> rfl), by repeat (first | (with_reducible first | exact HB.out | apply bA | apply bN | apply b1 | refine bS ?_ GE294.out | refine bS ?_ GE295.out) | exact HB.out)⟩
             ·rw [if_neg c42] at H
              have c42b0 : (t296 == 0) = false := beq_eq_false_iff_ne.mpr c42
              have c42b1 : (t296 != 0) = true := bne_iff_ne.mpr c42
              replace H := Option.bind_eq_some_iff.mp H
              obtain ⟨t300, A460, H⟩ := H
              replace H : (if t300 = true then (some (wrap64 (-t296), x296001_17, 0)) else (some (0, 0, 8))) = some (r1, r2, r3) := H
              have A46 := Aside0.mk A460
              clear A460
              by_cases c47 : t300 = true
              ·subst c47
               have H1 : (some (wrap64 (-t296), x296001_17, 0)) = some (r1, r2, r3) := by rw [if_pos rfl] at H; exact H
               clear H
               have H := H1
               clear H1
               simp only [Option.some.injEq, Prod.mk.injEq] at H
               obtain ⟨rfl, rfl, rfl⟩ := H
               have hnb48 := NB295_294.out
               have hnc48 := NB294_295.out
               have hcz49_0 : wc.cell? ⟨gb295, 0, none⟩ = some (.int .i64 t296) := (kC BK295.out 0).trans rfl
               have hcz49_1 : wc.cell? ⟨gb295, 1, none⟩ = some (.int .i64 x296001_17) := (kC BK295.out 1).trans rfl
               have hfz49_0 := blk_frozen BK295.out 0
               have hfz49_1 := blk_frozen BK295.out 1
               go_wp2_with (first | (go_at_call 20; (with_reducible refine (cohousingref01_Valid.calls kj17 (wrap64 (-t296)) x296001_17 true _ A46.out).mono ?_); rintro e w50 ⟨rfl, hb⟩; have n0_ := Aside0.mk (kB (g := gb294) (o := .cells #[.int .i64 0, .int .i64 0] 24 (0, 0)) (by (with_reducible repeat (first | refine kN ?_ _ | refine kD ?_ | refine kA ?_ _)); refine kF ?_ NB294_295.out _; (with_reducible repeat (first | refine kN ?_ _ | refine kD ?_ | refine kA ?_ _)); exact BK294.out) hb); have n1_ := Aside0.mk (kB (g := gb295) (o := .cells #[.int .i64 (wrap64 (-t296)), .int .i64 x296001_17] 24 (0, 0)) (by (with_reducible repeat (first | refine kN ?_ _ | refine kD ?_ | refine kA ?_ _)); refine blk_put (cs := #[.int .i64 t296, .int .i64 x296001_17]) ?_ 0 _ rfl; (with_reducible repeat (first | refine kN ?_ _ | refine kD ?_ | refine kA ?_ _)); exact BK295.out) hb); have n2_ := Aside0.mk (bT (by repeat (first | (with_reducible first | exact HB.out | apply bA | apply bN | apply b1 | refine bS ?_ GE294.out | refine bS ?_ GE295.out) | exact HB.out)) hb); clear BK294; clear BK295; clear HB; have BK294 := n0_; have BK295 := n1_; have HB := n2_; clear n0_ n1_ n2_; (try clear hb); (try clear hb2); (try clear hk); (try clear hi); have hcz51_0 : w50.cell? ⟨gb295, 0, none⟩ = some (.int .i64 (wrap64 (-t296))) := (kC BK295.out 0).trans rfl; have hcz51_1 : w50.cell? ⟨gb295, 1, none⟩ = some (.int .i64 x296001_17) := (kC BK295.out 1).trans rfl; have hfz51_0 := blk_frozen BK295.out 0; have hfz51_1 := blk_frozen BK295.out 1; have hcz52_0 : w50.cell? ⟨gb294, 0, none⟩ = some (.int .i64 0) := (kC BK294.out 0).trans rfl; have hcz52_1 : w50.cell? ⟨gb294, 1, none⟩ = some (.int .i64 0) := (kC BK294.out 1).trans rfl; have hfz52_0 := blk_frozen BK294.out 0; have hfz52_1 := blk_frozen BK294.out 1))
               refine bodyPost_ret (results_ct rfl _ _ gb294 24 #[.int .i64 (wrap64 (-t296)), .int .i64 x296001_17] (0, 0) _ rfl (by (with_reducible repeat (first | refine kN ?_ _ | refine kD ?_ | refine kA ?_ _)); refine blk_put (cs := #[.int .i64 (wrap64 (-t296)), .int .i64 0]) ?_ 1 _ rfl; (with_reducible repeat (first | refine kN ?_ _ | refine kD ?_ | refine kA ?_ _)); refine blk_put (cs := #[.int .i64 0, .int .i64 0]) ?_ 0 _ rfl; (with_reducible repeat (first | refine kN ?_ _ | refine kD ?_ | refine kA ?_ _)); exact BK294.out) Tryd.underlying24 rfl (by kernel_rfl)) rfl ?_
               exact ⟨by first | rfl | (simp [errW_none, errW_some] <;> rfl) | (simp [*, errW_none, errW_some] <;> rfl), by repeat (first | (with_reducible first | exact HB.out | apply bA | apply bN | apply b1 | refine bS ?_ GE294.out | refine bS ?_ GE295.out) | exact HB.out)⟩
              ·replace c47 := Bool.eq_false_iff.mpr c47
               subst c47
               have H1 : (some (0, 0, 8)) = some (r1, r2, r3) := by rw [if_neg (show ¬ (false = true) by decide)] at H; exact H
               clear H
               have H := H1
               clear H1
               simp only [Option.some.injEq, Prod.mk.injEq] at H
               obtain ⟨rfl, rfl, rfl⟩ := H
               have hnb53 := NB295_294.out
               have hnc53 := NB294_295.out
               have hcz54_0 : wc.cell? ⟨gb295, 0, none⟩ = some (.int .i64 t296) := (kC BK295.out 0).trans rfl
               have hcz54_1 : wc.cell? ⟨gb295, 1, none⟩ = some (.int .i64 x296001_17) := (kC BK295.out 1).trans rfl
               have hfz54_0 := blk_frozen BK295.out 0
               have hfz54_1 := blk_frozen BK295.out 1
               go_wp2_with (first | (go_at_call 20; (with_reducible refine (cohousingref01_Valid.calls kj17 (wrap64 (-t296)) x296001_17 false _ A46.out).mono ?_); rintro e w55 ⟨rfl, hb⟩; have n0_ := Aside0.mk (kB (g := gb294) (o := .cells #[.int .i64 0, .int .i64 0] 24 (0, 0)) (by (with_reducible repeat (first | refine kN ?_ _ | refine kD ?_ | refine kA ?_ _)); refine kF ?_ NB294_295.out _; (with_reducible repeat (first | refine kN ?_ _ | refine kD ?_ | refine kA ?_ _)); exact BK294.out) hb); have n1_ := Aside0.mk (kB (g := gb295) (o := .cells #[.int .i64 (wrap64 (-t296)), .int .i64 x296001_17] 24 (0, 0)) (by (with_reducible repeat (first | refine kN ?_ _ | refine kD ?_ | refine kA ?_ _)); refine blk_put (cs := #[.int .i64 t296, .int .i64 x296001_17]) ?_ 0 _ rfl; (with_reducible repeat (first | refine kN ?_ _ | refine kD ?_ | refine kA ?_ _)); exact BK295.out) hb); have n2_ := Aside0.mk (bT (by repeat (first | (with_reducible first | exact HB.out | apply bA | apply bN | apply b1 | refine bS ?_ GE294.out | refine bS ?_ GE295.out) | exact HB.out)) hb); clear BK294; clear BK295; clear HB; have BK294 := n0_; have BK295 := n1_; have HB := n2_; clear n0_ n1_ n2_; (try clear hb); (try clear hb2); (try clear hk); (try clear hi); have hcz56_0 : w55.cell? ⟨gb294, 0, none⟩ = some (.int .i64 0) := (kC BK294.out 0).trans rfl; have hcz56_1 : w55.cell? ⟨gb294, 1, none⟩ = some (.int .i64 0) := (kC BK294.out 1).trans rfl; have hfz56_0 := blk_frozen BK294.out 0; have hfz56_1 := blk_frozen BK294.out 1))
               refine bodyPost_ret (results_ct rfl _ _ gb294 24 #[.int .i64 0, .int .i64 0] (0, 0) _ rfl (by (with_reducible repeat (first | refine kN ?_ _ | refine kD ?_ | refine kA ?_ _)); refine blk_put (cs := #[.int .i64 0, .int .i64 0]) ?_ 1 _ rfl; (with_reducible repeat (first | refine kN ?_ _ | refine kD ?_ | refine kA ?_ _)); refine blk_put (cs := #[.int .i64 0, .int .i64 0]) ?_ 0 _ rfl; (with_reducible repeat (first | refine kN ?_ _ | refine kD ?_ | refine kA ?_ _)); exact BK294.out) Tryd.underlying24 rfl (by kernel_rfl)) rfl ?_
               exact ⟨by first | rfl | (simp [errW_none, errW_some] <;> rfl) | (simp [*, errW_none, errW_some] <;> rfl), by repeat (first | (with_reducible first | exact HB.out | apply bA | apply bN | apply b1 | refine bS ?_ GE294.out | refine bS ?_ GE295.out) | exact HB.out)⟩
            ·replace c41 := Bool.eq_false_iff.mpr c41
             subst c41
             have H1 : (some (0, 0, 8)) = some (r1, r2, r3) := by rw [if_neg (show ¬ (false = true) by decide)] at H; exact H
             clear H
             have H := H1
             clear H1
             simp only [Option.some.injEq, Prod.mk.injEq] at H
             obtain ⟨rfl, rfl, rfl⟩ := H
             have hnb57 := NB295_294.out
             have hnc57 := NB294_295.out
             have hcz58_0 : wc.cell? ⟨gb295, 0, none⟩ = some (.int .i64 t296) := (kC BK295.out 0).trans rfl
             have hcz58_1 : wc.cell? ⟨gb295, 1, none⟩ = some (.int .i64 x296001_17) := (kC BK295.out 1).trans rfl
             have hfz58_0 := blk_frozen BK295.out 0
             have hfz58_1 := blk_frozen BK295.out 1
             have hcz59_0 : wc.cell? ⟨gb294, 0, none⟩ = some (.int .i64 0) := (kC BK294.out 0).trans rfl
             have hcz59_1 : wc.cell? ⟨gb294, 1, none⟩ = some (.int .i64 0) := (kC BK294.out 1).trans rfl
             have hfz59_0 := blk_frozen BK294.out 0
             have hfz59_1 := blk_frozen BK294.out 1
             go_wp2
             refine bodyPost_ret (results_ct rfl _ _ gb294 24 #[.int .i64 0, .int .i64 0] (0, 0) _ rfl (by (with_reducible repeat (first | refine kN ?_ _ | refine kD ?_ | refine kA ?_ _)); refine blk_put (cs := #[.int .i64 0, .int .i64 0]) ?_ 1 _ rfl; (with_reducible repeat (first | refine kN ?_ _ | refine kD ?_ | refine kA ?_ _)); refine blk_put (cs := #[.int .i64 0, .int .i64 0]) ?_ 0 _ rfl; (with_reducible repeat (first | refine kN ?_ _ | refine kD ?_ | refine kA ?_ _)); refine kF ?_ NB294_295.out _; (with_reducible repeat (first | refine kN ?_ _ | refine kD ?_ | refine kA ?_ _)); exact BK294.out) Tryd.underlying24 rfl (by kernel_rfl)) rfl ?_
             exact ⟨by first | rfl | (simp [errW_none, errW_some] <;> rfl) | (simp [*, errW_none, errW_some] <;> rfl), by repeat (first | (with_reducible first | exact HB.out | apply bA | apply bN | apply b1 | refine bS ?_ GE294.out | refine bS ?_ GE295.out) | exact HB.out)⟩
           ·replace c40 := Bool.eq_false_iff.mpr c40
            subst c40
            have H1 : (if x8_17 = true then ((cohousingref01_Valid.f kj17 t296 x296001_17).bind fun t301 => (if t301 = true then (some (t296, x296001_17, 0)) else (some (0, 0, 8)))) else (some (0, 0, 8))) = some (r1, r2, r3) := by rw [if_neg (show ¬ (false = true) by decide)] at H; exact H
            clear H
            have H := H1
            clear H1
            by_cases c60 : x8_17 = true
            ·subst c60
             have H1 : ((cohousingref01_Valid.f kj17 t296 x296001_17).bind fun t301 => (if t301 = true then (some (t296, x296001_17, 0)) else (some (0, 0, 8)))) = some (r1, r2, r3) := by rw [if_pos rfl] at H; exact H
             clear H
             have H := H1
             clear H1
             replace H := Option.bind_eq_some_iff.mp H
             obtain ⟨t301, A610, H⟩ := H
             replace H : (if t301 = true then (some (t296, x296001_17, 0)) else (some (0, 0, 8))) = some (r1, r2, r3) := H
             have A61 := Aside0.mk A610
             clear A610
             by_cases c62 : t301 = true
             ·subst c62
              have H1 : (some (t296, x296001_17, 0)) = some (r1, r2, r3) := by rw [if_pos rfl] at H; exact H
              clear H
              have H := H1
              clear H1
              simp only [Option.some.injEq, Prod.mk.injEq] at H
              obtain ⟨rfl, rfl, rfl⟩ := H
              have hnb63 := NB295_294.out
              have hnc63 := NB294_295.out
              have hcz64_0 : wc.cell? ⟨gb295, 0, none⟩ = some (.int .i64 t296) := (kC BK295.out 0).trans rfl
              have hcz64_1 : wc.cell? ⟨gb295, 1, none⟩ = some (.int .i64 x296001_17) := (kC BK295.out 1).trans rfl
              have hfz64_0 := blk_frozen BK295.out 0
              have hfz64_1 := blk_frozen BK295.out 1
              go_wp2_with (first | (go_at_call 20; (with_reducible refine (cohousingref01_Valid.calls kj17 t296 x296001_17 true _ A61.out).mono ?_); rintro e w65 ⟨rfl, hb⟩; have n0_ := Aside0.mk (kB (g := gb294) (o := .cells #[.int .i64 0, .int .i64 0] 24 (0, 0)) (by (with_reducible repeat (first | refine kN ?_ _ | refine kD ?_ | refine kA ?_ _)); exact BK294.out) hb); have n1_ := Aside0.mk (kB (g := gb295) (o := .cells #[.int .i64 t296, .int .i64 x296001_17] 24 (0, 0)) (by (with_reducible repeat (first | refine kN ?_ _ | refine kD ?_ | refine kA ?_ _)); exact BK295.out) hb); have n2_ := Aside0.mk (bT (by repeat (first | (with_reducible first | exact HB.out | apply bA | apply bN | apply b1 | refine bS ?_ GE294.out | refine bS ?_ GE295.out) | exact HB.out)) hb); clear BK294; clear BK295; clear HB; have BK294 := n0_; have BK295 := n1_; have HB := n2_; clear n0_ n1_ n2_; (try clear hb); (try clear hb2); (try clear hk); (try clear hi); have hcz66_0 : w65.cell? ⟨gb295, 0, none⟩ = some (.int .i64 t296) := (kC BK295.out 0).trans rfl; have hcz66_1 : w65.cell? ⟨gb295, 1, none⟩ = some (.int .i64 x296001_17) := (kC BK295.out 1).trans rfl; have hfz66_0 := blk_frozen BK295.out 0; have hfz66_1 := blk_frozen BK295.out 1; have hcz67_0 : w65.cell? ⟨gb294, 0, none⟩ = some (.int .i64 0) := (kC BK294.out 0).trans rfl; have hcz67_1 : w65.cell? ⟨gb294, 1, none⟩ = some (.int .i64 0) := (kC BK294.out 1).trans rfl; have hfz67_0 := blk_frozen BK294.out 0; have hfz67_1 := blk_frozen BK294.out 1))
              refine bodyPost_ret (results_ct rfl _ _ gb294 24 #[.int .i64 t296, .int .i64 x296001_17] (0, 0) _ rfl (by (with_reducible repeat (first | refine kN ?_ _ | refine kD ?_ | refine kA ?_ _)); refine blk_put (cs := #[.int .i64 t296, .int .i64 0]) ?_ 1 _ rfl; (with_reducible repeat (first | refine kN ?_ _ | refine kD ?_ | refine kA ?_ _)); refine blk_put (cs := #[.int .i64 0, .int .i64 0]) ?_ 0 _ rfl; (with_reducible repeat (first | refine kN ?_ _ | refine kD ?_ | refine kA ?_ _)); exact BK294.out) Tryd.underlying24 rfl (by kernel_rfl)) rfl ?_
              exact ⟨by first | rfl | (simp [errW_none, errW_some] <;> rfl) | (simp [*, errW_none, errW_some] <;> rfl), by repeat (first | (with_reducible first | exact HB.out | apply bA | apply bN | apply b1 | refine bS ?_ GE294.out | refine bS ?_ GE295.out) | exact HB.out)⟩
             ·replace c62 := Bool.eq_false_iff.mpr c62
              subst c62
              have H1 : (some (0, 0, 8)) = some (r1, r2, r3) := by rw [if_neg (show ¬ (false = true) by decide)] at H; exact H
              clear H
              have H := H1
              clear H1
              simp only [Option.some.injEq, Prod.mk.injEq] at H
              obtain ⟨rfl, rfl, rfl⟩ := H
              have hnb68 := NB295_294.out
              have hnc68 := NB294_295.out
              have hcz69_0 : wc.cell? ⟨gb295, 0, none⟩ = some (.int .i64 t296) := (kC BK295.out 0).trans rfl
              have hcz69_1 : wc.cell? ⟨gb295, 1, none⟩ = some (.int .i64 x296001_17) := (kC BK295.out 1).trans rfl
              have hfz69_0 := blk_frozen BK295.out 0
              have hfz69_1 := blk_frozen BK295.out 1
              go_wp2_with (first | (go_at_call 20; (with_reducible refine (cohousingref01_Valid.calls kj17 t296 x296001_17 false _ A61.out).mono ?_); rintro e w70 ⟨rfl, hb⟩; have n0_ := Aside0.mk (kB (g := gb294) (o := .cells #[.int .i64 0, .int .i64 0] 24 (0, 0)) (by (with_reducible repeat (first | refine kN ?_ _ | refine kD ?_ | refine kA ?_ _)); exact BK294.out) hb); have n1_ := Aside0.mk (kB (g := gb295) (o := .cells #[.int .i64 t296, .int .i64 x296001_17] 24 (0, 0)) (by (with_reducible repeat (first | refine kN ?_ _ | refine kD ?_ | refine kA ?_ _)); exact BK295.out) hb); have n2_ := Aside0.mk (bT (by repeat (first | (with_reducible first | exact HB.out | apply bA | apply bN | apply b1 | refine bS ?_ GE294.out | refine bS ?_ GE295.out) | exact HB.out)) hb); clear BK294; clear BK295; clear HB; have BK294 := n0_; have BK295 := n1_; have HB := n2_; clear n0_ n1_ n2_; (try clear hb); (try clear hb2); (try clear hk); (try clear hi); have hcz71_0 : w70.cell? ⟨gb294, 0, none⟩ = some (.int .i64 0) := (kC BK294.out 0).trans rfl; have hcz71_1 : w70.cell? ⟨gb294, 1, none⟩ = some (.int .i64 0) := (kC BK294.out 1).trans rfl; have hfz71_0 := blk_frozen BK294.out 0; have hfz71_1 := blk_frozen BK294.out 1))
              refine bodyPost_ret (results_ct rfl _ _ gb294 24 #[.int .i64 0, .int .i64 0] (0, 0) _ rfl (by (with_reducible repeat (first | refine kN ?_ _ | refine kD ?_ | refine kA ?_ _)); refine blk_put (cs := #[.int .i64 0, .int .i64 0]) ?_ 1 _ rfl; (with_reducible repeat (first | refine kN ?_ _ | refine kD ?_ | refine kA ?_ _)); refine blk_put (cs := #[.int .i64 0, .int .i64 0]) ?_ 0 _ rfl; (with_reducible repeat (first | refine kN ?_ _ | refine kD ?_ | refine kA ?_ _)); exact BK294.out) Tryd.underlying24 rfl (by kernel_rfl)) rfl ?_
              exact ⟨by first | rfl | (simp [errW_none, errW_some] <;> rfl) | (simp [*, errW_none, errW_some] <;> rfl), by repeat (first | (with_reducible first | exact HB.out | apply bA | apply bN | apply b1 | refine bS ?_ GE294.out | refine bS ?_ GE295.out) | exact HB.out)⟩
            ·replace c60 := Bool.eq_false_iff.mpr c60
             subst c60
             have H1 : (some (0, 0, 8)) = some (r1, r2, r3) := by rw [if_neg (show ¬ (false = true) by decide)] at H; exact H
             clear H
             have H := H1
             clear H1
             simp only [Option.some.injEq, Prod.mk.injEq] at H
             obtain ⟨rfl, rfl, rfl⟩ := H
             have hnb72 := NB294_295.out
             have hnc72 := NB295_294.out
             have hcz73_0 : wc.cell? ⟨gb294, 0, none⟩ = some (.int .i64 0) := (kC BK294.out 0).trans rfl
             have hcz73_1 : wc.cell? ⟨gb294, 1, none⟩ = some (.int .i64 0) := (kC BK294.out 1).trans rfl
             have hfz73_0 := blk_frozen BK294.out 0
             have hfz73_1 := blk_frozen BK294.out 1
             go_wp2
             refine bodyPost_ret (results_ct rfl _ _ gb294 24 #[.int .i64 0, .int .i64 0] (0, 0) _ rfl (by (with_reducible repeat (first | refine kN ?_ _ | refine kD ?_ | refine kA ?_ _)); refine blk_put (cs := #[.int .i64 0, .int .i64 0]) ?_ 1 _ rfl; (with_reducible repeat (first | refine kN ?_ _ | refine kD ?_ | refine kA ?_ _)); refine blk_put (cs := #[.int .i64 0, .int .i64 0]) ?_ 0 _ rfl; (with_reducible repeat (first | refine kN ?_ _ | refine kD ?_ | refine kA ?_ _)); exact BK294.out) Tryd.underlying24 rfl (by kernel_rfl)) rfl ?_
             exact ⟨by first | rfl | (simp [errW_none, errW_some] <;> rfl) | (simp [*, errW_none, errW_some] <;> rfl), by repeat (first | (with_reducible first | exact HB.out | apply bA | apply bN | apply b1 | refine bS ?_ GE294.out | refine bS ?_ GE295.out) | exact HB.out)⟩
        ·rw [if_neg c16] at H
         exact absurd H (by simp)
       ·rw [if_neg c15] at H
        exact absurd H (by simp)

end Go.Proofs.YteifflpjhlgpjaaDoor.X
