-- Written by a program of mine (wip/tools/xprint.py) over the kit's print.py: printed functions and hand-proved ones side by side.
import Derived.Test.YtcbhaoaameiacaaDoorXx0
import Derived.Test.YtcbhaoaameiacaaDoorXx3
import Derived.Test.YtcbhaoaameiacaaDoorXx12
namespace Go.Proofs.YtcbhaoaameiacaaDoor.X
open Go.RowKit Go.Proofs.YtcbhaoaameiacaaDoorW.PrintWords Go.Proofs.YtcbhaoaameiacaaDoorW.PrintLast Go.Proofs.YtcbhaoaameiacaaDoorW.PrintMore
attribute [local go_sem] max2_int min2_int max_two min_two max_three min_three max_four min_four   -- for this text's walks alone
set_option linter.unusedVariables false
set_option linter.unusedSimpArgs false

/-! ### money_Parse: function 25 -/
-- by hand: cohousing/money.Parse
/-- A string's first byte is c. -/
def startsB (s : ByteArray) (c : UInt8) : Bool := decide (0 < s.size) && (s.extract 0 1).toList == [c]
theorem slite_has (s : ByteArray) (c : UInt8) (w : World) : Calls Tryd.prog 53 #[.string s, .string ⟨#[c]⟩] w fun e w' => e = .returned (.bool (startsB s c)) ∧ Drawn0 w w' := by
  unfold startsB
  have hz : (ByteArray.mk #[c]).size = 1 := rfl
  by_cases h0 : 0 < s.size
  · have g1 : (1 : Int) ≤ (s.size : Int) := by omega
    rw [decide_eq_true h0, Bool.true_and]
    go_enter Tryd.func53, Tryd.ntmps53
    go_wp2_with fail
    go_ret
    exact ⟨rfl, Drawn0.refl _⟩
  · have g1 : ¬ (1 : Int) ≤ (s.size : Int) := by omega
    have g2 : decide ((s.size : Int) ≥ 1) = false := decide_eq_false g1
    rw [decide_eq_false h0, Bool.false_and]
    go_enter Tryd.func53, Tryd.ntmps53
    go_wp2_with fail
    go_ret
    exact ⟨rfl, Drawn0.refl _⟩
theorem has_one (s : ByteArray) (c : UInt8) (w : World) : Calls Tryd.prog 40 #[.string s, .string ⟨#[c]⟩] w fun e w' => e = .returned (.bool (startsB s c)) ∧ Drawn0 w w' := by
  have H := Lib.hid (fun W => slite_has s c W)
  go_enter Tryd.func40, Tryd.ntmps40
  go_wp2_with fail
  refine (H.out _).mono ?_
  rintro e w' ⟨rfl, hd⟩
  go_wp2_with fail
  go_ret
  exact ⟨rfl, hd⟩
def trimB (s : ByteArray) (c : UInt8) : ByteArray := if startsB s c = true then s.extract 1 s.size else s
theorem slite_trim (s : ByteArray) (c : UInt8) (w : World) : Calls Tryd.prog 49 #[.string s, .string ⟨#[c]⟩] w fun e w' => e = .returned (.string (trimB s c)) ∧ Drawn0 w w' := by
  have H := Lib.hid (fun W => slite_has s c W)
  have hz : (ByteArray.mk #[c]).size = 1 := rfl
  unfold trimB
  by_cases h0 : startsB s c = true
  · have h1 : 0 < s.size := by
      unfold startsB at h0
      rw [Bool.and_eq_true, decide_eq_true_iff] at h0
      exact h0.1
    have g1 : (1 : Int) ≤ (s.size : Int) := by omega
    rw [if_pos h0]
    rw [h0] at H
    go_enter Tryd.func49, Tryd.ntmps49
    go_wp2_with fail
    refine (H.out _).mono ?_
    rintro e w' ⟨rfl, hd⟩
    go_wp2_with fail
    go_ret
    exact ⟨rfl, hd⟩
  · rw [if_neg h0]
    rw [Bool.eq_false_iff.mpr h0] at H
    go_enter Tryd.func49, Tryd.ntmps49
    go_wp2_with fail
    refine (H.out _).mono ?_
    rintro e w' ⟨rfl, hd⟩
    go_wp2_with fail
    go_ret
    exact ⟨rfl, hd⟩
theorem trim_one (s : ByteArray) (c : UInt8) (w : World) : Calls Tryd.prog 36 #[.string s, .string ⟨#[c]⟩] w fun e w' => e = .returned (.string (trimB s c)) ∧ Drawn0 w w' := by
  have H := Lib.hid (fun W => slite_trim s c W)
  go_enter Tryd.func36, Tryd.ntmps36
  go_wp2_with fail
  refine (H.out _).mono ?_
  rintro e w' ⟨rfl, hd⟩
  go_wp2_with fail
  go_ret
  exact ⟨rfl, hd⟩
/-- A rune that is no digit. -/
def noDig (r : Nat) : Bool := decide (r < 48) || decide (57 < r)
theorem noDig_at (w : World) : PredAt Tryd.prog 37 #[] encR noDig w := fun W r _ => by
  unfold FnGives noDig
  by_cases h1 : r < 48 <;> by_cases h2 : 57 < r
  all_goals
    have z1 : (r : Int) < 48 ↔ r < 48 := by omega
    have z2 : (57 : Int) < (r : Int) ↔ 57 < r := by omega
    go_enter Tryd.func37, Tryd.ntmps37
    go_wp2
    all_goals first | (exfalso; omega) | (go_ret; exact ⟨by simp [h1, h2], 0, rfl⟩)
/-- The string holds a rune that is no digit. -/
def badDig (s : ByteArray) : Bool := decide (0 ≤ Lib.idxFunc noDig true s)
theorem contains_dig (s : ByteArray) (w : World) : Calls Tryd.prog 38 #[.string s, .func (.func 37) #[] #[]] w fun e w' => e = .returned (.bool (badDig s)) ∧ Below w.heap.size w w' :=
  Tryd.strings_ContainsFunc 37 #[] (enters_of Tryd.func37 (by kernel_rfl) rfl) noDig s w (noDig_at w)
theorem parse_a (s t a b : ByteArray) (w : World) (hs : s.size ≤ 140737488351232) (ht : trimB s 45 = t) (hts : t.size ≤ s.size) (hc : cutAt t 46 = (a, b, false)) (hab : a.size + b.size ≤ s.size)  :
    Calls Tryd.prog 25 #[.string s] w fun e w' => e = .returned (.tuple #[.int .i64 0, .int .i64 8]) ∧ Below w.heap.size w w' := by
  have HT := Lib.hid (fun W => trim_one s 45 W)
  rw [ht] at HT
  have HC := Lib.hid (fun W => cut_one t 46 W (by omega))
  rw [hc] at HC
  clear ht hc
  go_enter Tryd.func25, Tryd.ntmps25
  go_wp2_with fail
  refine (HT.out _).mono ?_
  rintro e w1 ⟨rfl, ⟨m, rfl⟩⟩
  go_wp2_with fail
  refine (HC.out _).mono ?_
  rintro e w1 ⟨rfl, ⟨m2, rfl⟩⟩
  go_wp2_with fail
  go_ret2
  exact ⟨rfl, pw_below_drewN (Below.refl _ _) _⟩
theorem parse_b (s t a b : ByteArray) (w : World) (hs : s.size ≤ 140737488351232) (ht : trimB s 45 = t) (hts : t.size ≤ s.size) (hc : cutAt t 46 = (a, b, true)) (hab : a.size + b.size ≤ s.size) (ha : (a.toList == []) = true) :
    Calls Tryd.prog 25 #[.string s] w fun e w' => e = .returned (.tuple #[.int .i64 0, .int .i64 8]) ∧ Below w.heap.size w w' := by
  have HT := Lib.hid (fun W => trim_one s 45 W)
  rw [ht] at HT
  have HC := Lib.hid (fun W => cut_one t 46 W (by omega))
  rw [hc] at HC
  clear ht hc
  go_enter Tryd.func25, Tryd.ntmps25
  go_wp2_with fail
  refine (HT.out _).mono ?_
  rintro e w1 ⟨rfl, ⟨m, rfl⟩⟩
  go_wp2_with fail
  refine (HC.out _).mono ?_
  rintro e w1 ⟨rfl, ⟨m2, rfl⟩⟩
  go_wp2_with fail
  go_ret2
  exact ⟨rfl, pw_below_drewN (Below.refl _ _) _⟩
theorem parse_c (s t a b : ByteArray) (w : World) (hs : s.size ≤ 140737488351232) (ht : trimB s 45 = t) (hts : t.size ≤ s.size) (hc : cutAt t 46 = (a, b, true)) (hab : a.size + b.size ≤ s.size) (ha : (a.toList == []) = false) (hb : ¬ b.size = 2) :
    Calls Tryd.prog 25 #[.string s] w fun e w' => e = .returned (.tuple #[.int .i64 0, .int .i64 8]) ∧ Below w.heap.size w w' := by
  have HT := Lib.hid (fun W => trim_one s 45 W)
  rw [ht] at HT
  have HC := Lib.hid (fun W => cut_one t 46 W (by omega))
  rw [hc] at HC
  clear ht hc
  have hb1 : ¬ (b.size : Int) = 2 := by omega
  go_enter Tryd.func25, Tryd.ntmps25
  go_wp2_with fail
  refine (HT.out _).mono ?_
  rintro e w1 ⟨rfl, ⟨m, rfl⟩⟩
  go_wp2_with fail
  refine (HC.out _).mono ?_
  rintro e w1 ⟨rfl, ⟨m2, rfl⟩⟩
  go_wp2_with fail
  go_ret2
  exact ⟨rfl, pw_below_drewN (Below.refl _ _) _⟩
theorem parse_d (s t a b : ByteArray) (w : World) (hs : s.size ≤ 140737488351232) (ht : trimB s 45 = t) (hts : t.size ≤ s.size) (hc : cutAt t 46 = (a, b, true)) (hab : a.size + b.size ≤ s.size) (ha : (a.toList == []) = false) (hb : b.size = 2) (hf : badDig (a ++ b) = true) :
    Calls Tryd.prog 25 #[.string s] w fun e w' => e = .returned (.tuple #[.int .i64 0, .int .i64 8]) ∧ Below w.heap.size w w' := by
  have HT := Lib.hid (fun W => trim_one s 45 W)
  rw [ht] at HT
  have HC := Lib.hid (fun W => cut_one t 46 W (by omega))
  rw [hc] at HC
  clear ht hc
  have hb1 : (b.size : Int) = 2 := by omega
  have g1 : a.size + b.size ≤ 9223372036854775807 := by omega
  have HF := Lib.hid (fun W => contains_dig (a ++ b) W)
  rw [hf] at HF
  clear hf
  go_enter Tryd.func25, Tryd.ntmps25
  go_wp2_with fail
  refine (HT.out _).mono ?_
  rintro e w1 ⟨rfl, ⟨m, rfl⟩⟩
  go_wp2_with fail
  refine (HC.out _).mono ?_
  rintro e w1 ⟨rfl, ⟨m2, rfl⟩⟩
  go_wp2_with fail
  refine (HF.out _).mono ?_
  rintro e w2 ⟨rfl, hb2⟩
  go_wp2_with fail
  go_ret2
  exact ⟨rfl, (pw_below_drewN (Below.refl _ _) _).trans hb2⟩
theorem parse_e (s t a b : ByteArray) (w : World) (hs : s.size ≤ 140737488351232) (ht : trimB s 45 = t) (hts : t.size ≤ s.size) (hc : cutAt t 46 = (a, b, true)) (hab : a.size + b.size ≤ s.size) (ha : (a.toList == []) = false) (hb : b.size = 2) (hf : badDig (a ++ b) = false) (h0 : 0 < a.size) (hz : ((a[0]'h0).toNat : Int) = 48) (hn : (a.toList == [48]) = false) :
    Calls Tryd.prog 25 #[.string s] w fun e w' => e = .returned (.tuple #[.int .i64 0, .int .i64 8]) ∧ Below w.heap.size w w' := by
  have HT := Lib.hid (fun W => trim_one s 45 W)
  rw [ht] at HT
  have HC := Lib.hid (fun W => cut_one t 46 W (by omega))
  rw [hc] at HC
  clear ht hc
  have hb1 : (b.size : Int) = 2 := by omega
  have g0 : (0 : Int) < (a.size : Int) := by omega
  have g1 : a.size + b.size ≤ 9223372036854775807 := by omega
  have HF := Lib.hid (fun W => contains_dig (a ++ b) W)
  rw [hf] at HF
  clear hf
  go_enter Tryd.func25, Tryd.ntmps25
  go_wp2_with fail
  refine (HT.out _).mono ?_
  rintro e w1 ⟨rfl, ⟨m, rfl⟩⟩
  go_wp2_with fail
  refine (HC.out _).mono ?_
  rintro e w1 ⟨rfl, ⟨m2, rfl⟩⟩
  go_wp2_with fail
  refine (HF.out _).mono ?_
  rintro e w2 ⟨rfl, hb2⟩
  go_wp2_with fail
  go_ret2
  exact ⟨rfl, (pw_below_drewN (Below.refl _ _) _).trans hb2⟩
theorem parse_f (s t a b : ByteArray) (w : World) (hs : s.size ≤ 140737488351232) (ht : trimB s 45 = t) (hts : t.size ≤ s.size) (hc : cutAt t 46 = (a, b, true)) (hab : a.size + b.size ≤ s.size) (ha : (a.toList == []) = false) (hb : b.size = 2) (hf : badDig (a ++ b) = false) (h0 : 0 < a.size) (hzn : ((a[0]'h0).toNat : Int) = 48 → (a.toList == [48]) = true) (h9 : 9 < a.size) :
    Calls Tryd.prog 25 #[.string s] w fun e w' => e = .returned (.tuple #[.int .i64 0, .int .i64 3]) ∧ Below w.heap.size w w' := by
  have HT := Lib.hid (fun W => trim_one s 45 W)
  rw [ht] at HT
  have HC := Lib.hid (fun W => cut_one t 46 W (by omega))
  rw [hc] at HC
  clear ht hc
  have hb1 : (b.size : Int) = 2 := by omega
  have g0 : (0 : Int) < (a.size : Int) := by omega
  have g1 : a.size + b.size ≤ 9223372036854775807 := by omega
  have HF := Lib.hid (fun W => contains_dig (a ++ b) W)
  rw [hf] at HF
  clear hf
  have g9 : (9 : Int) < (a.size : Int) := by omega
  by_cases hz : ((a[0]'h0).toNat : Int) = 48
  · have hn := hzn hz
    clear hzn
    go_enter Tryd.func25, Tryd.ntmps25
    go_wp2_with fail
    refine (HT.out _).mono ?_
    rintro e w1 ⟨rfl, ⟨m, rfl⟩⟩
    go_wp2_with fail
    refine (HC.out _).mono ?_
    rintro e w1 ⟨rfl, ⟨m2, rfl⟩⟩
    go_wp2_with fail
    refine (HF.out _).mono ?_
    rintro e w2 ⟨rfl, hb2⟩
    go_wp2_with fail
    go_ret2
    exact ⟨rfl, (pw_below_drewN (Below.refl _ _) _).trans hb2⟩
  · clear hzn
    go_enter Tryd.func25, Tryd.ntmps25
    go_wp2_with fail
    refine (HT.out _).mono ?_
    rintro e w1 ⟨rfl, ⟨m, rfl⟩⟩
    go_wp2_with fail
    refine (HC.out _).mono ?_
    rintro e w1 ⟨rfl, ⟨m2, rfl⟩⟩
    go_wp2_with fail
    refine (HF.out _).mono ?_
    rintro e w2 ⟨rfl, hb2⟩
    go_wp2_with fail
    go_ret2
    exact ⟨rfl, (pw_below_drewN (Below.refl _ _) _).trans hb2⟩
theorem parse_g (s t a b : ByteArray) (v : Int) (w : World) (hs : s.size ≤ 140737488351232) (ht : trimB s 45 = t) (hts : t.size ≤ s.size) (hc : cutAt t 46 = (a, b, true)) (hab : a.size + b.size ≤ s.size) (ha : (a.toList == []) = false) (hb : b.size = 2) (hf : badDig (a ++ b) = false) (h0 : 0 < a.size) (hzn : ((a[0]'h0).toNat : Int) = 48 → (a.toList == [48]) = true) (h9 : a.size ≤ 9) (hv : Lib.atoiAll (a ++ b).data.toList = .ok v) (hp : startsB s 45 = true) (h1 : v = 0) :
    Calls Tryd.prog 25 #[.string s] w fun e w' => e = .returned (.tuple #[.int .i64 0, .int .i64 8]) ∧ Below w.heap.size w w' := by
  have HT := Lib.hid (fun W => trim_one s 45 W)
  rw [ht] at HT
  have HC := Lib.hid (fun W => cut_one t 46 W (by omega))
  rw [hc] at HC
  clear ht hc
  have hb1 : (b.size : Int) = 2 := by omega
  have g0 : (0 : Int) < (a.size : Int) := by omega
  have g1 : a.size + b.size ≤ 9223372036854775807 := by omega
  have HF := Lib.hid (fun W => contains_dig (a ++ b) W)
  rw [hf] at HF
  clear hf
  have g9 : ¬ (9 : Int) < (a.size : Int) := by omega
  have HA := Lib.hid (fun W => atoi_ok (a ++ b) v W (by simp only [ByteArray.size_append]; omega) hv)
  clear hv
  have HP := Lib.hid (fun W => has_one s 45 W)
  rw [hp] at HP
  clear hp
  by_cases hz : ((a[0]'h0).toNat : Int) = 48
  · have hn := hzn hz
    clear hzn
    go_enter Tryd.func25, Tryd.ntmps25
    go_wp2_with fail
    refine (HT.out _).mono ?_
    rintro e w1 ⟨rfl, ⟨m, rfl⟩⟩
    go_wp2_with fail
    refine (HC.out _).mono ?_
    rintro e w1 ⟨rfl, ⟨m2, rfl⟩⟩
    go_wp2_with fail
    refine (HF.out _).mono ?_
    rintro e w2 ⟨rfl, hb2⟩
    go_wp2_with fail
    refine (HA.out _).mono ?_
    rintro e w3 ⟨rfl, hb3⟩
    go_wp2_with fail
    refine (HP.out _).mono ?_
    rintro e w4 ⟨rfl, ⟨m3, rfl⟩⟩
    go_wp2_with fail
    go_ret2
    exact ⟨rfl, pw_below_drewN (((pw_below_drewN (Below.refl _ _) _).trans hb2).trans (hb3.mono hb2.size)) _⟩
  · clear hzn
    go_enter Tryd.func25, Tryd.ntmps25
    go_wp2_with fail
    refine (HT.out _).mono ?_
    rintro e w1 ⟨rfl, ⟨m, rfl⟩⟩
    go_wp2_with fail
    refine (HC.out _).mono ?_
    rintro e w1 ⟨rfl, ⟨m2, rfl⟩⟩
    go_wp2_with fail
    refine (HF.out _).mono ?_
    rintro e w2 ⟨rfl, hb2⟩
    go_wp2_with fail
    refine (HA.out _).mono ?_
    rintro e w3 ⟨rfl, hb3⟩
    go_wp2_with fail
    refine (HP.out _).mono ?_
    rintro e w4 ⟨rfl, ⟨m3, rfl⟩⟩
    go_wp2_with fail
    go_ret2
    exact ⟨rfl, pw_below_drewN (((pw_below_drewN (Below.refl _ _) _).trans hb2).trans (hb3.mono hb2.size)) _⟩
theorem parse_h (s t a b : ByteArray) (v : Int) (w : World) (hs : s.size ≤ 140737488351232) (ht : trimB s 45 = t) (hts : t.size ≤ s.size) (hc : cutAt t 46 = (a, b, true)) (hab : a.size + b.size ≤ s.size) (ha : (a.toList == []) = false) (hb : b.size = 2) (hf : badDig (a ++ b) = false) (h0 : 0 < a.size) (hzn : ((a[0]'h0).toNat : Int) = 48 → (a.toList == [48]) = true) (h9 : a.size ≤ 9) (hv : Lib.atoiAll (a ++ b).data.toList = .ok v) (hp : startsB s 45 = false) (h1 : 1000000000 < v) :
    Calls Tryd.prog 25 #[.string s] w fun e w' => e = .returned (.tuple #[.int .i64 0, .int .i64 3]) ∧ Below w.heap.size w w' := by
  have HT := Lib.hid (fun W => trim_one s 45 W)
  rw [ht] at HT
  have HC := Lib.hid (fun W => cut_one t 46 W (by omega))
  rw [hc] at HC
  clear ht hc
  have hb1 : (b.size : Int) = 2 := by omega
  have g0 : (0 : Int) < (a.size : Int) := by omega
  have g1 : a.size + b.size ≤ 9223372036854775807 := by omega
  have HF := Lib.hid (fun W => contains_dig (a ++ b) W)
  rw [hf] at HF
  clear hf
  have g9 : ¬ (9 : Int) < (a.size : Int) := by omega
  have HA := Lib.hid (fun W => atoi_ok (a ++ b) v W (by simp only [ByteArray.size_append]; omega) hv)
  clear hv
  have HP := Lib.hid (fun W => has_one s 45 W)
  rw [hp] at HP
  clear hp
  by_cases hz : ((a[0]'h0).toNat : Int) = 48
  · have hn := hzn hz
    clear hzn
    go_enter Tryd.func25, Tryd.ntmps25
    go_wp2_with fail
    refine (HT.out _).mono ?_
    rintro e w1 ⟨rfl, ⟨m, rfl⟩⟩
    go_wp2_with fail
    refine (HC.out _).mono ?_
    rintro e w1 ⟨rfl, ⟨m2, rfl⟩⟩
    go_wp2_with fail
    refine (HF.out _).mono ?_
    rintro e w2 ⟨rfl, hb2⟩
    go_wp2_with fail
    refine (HA.out _).mono ?_
    rintro e w3 ⟨rfl, hb3⟩
    go_wp2_with fail
    refine (HP.out _).mono ?_
    rintro e w4 ⟨rfl, ⟨m3, rfl⟩⟩
    go_wp2_with fail
    go_ret2
    exact ⟨rfl, pw_below_drewN (((pw_below_drewN (Below.refl _ _) _).trans hb2).trans (hb3.mono hb2.size)) _⟩
  · clear hzn
    go_enter Tryd.func25, Tryd.ntmps25
    go_wp2_with fail
    refine (HT.out _).mono ?_
    rintro e w1 ⟨rfl, ⟨m, rfl⟩⟩
    go_wp2_with fail
    refine (HC.out _).mono ?_
    rintro e w1 ⟨rfl, ⟨m2, rfl⟩⟩
    go_wp2_with fail
    refine (HF.out _).mono ?_
    rintro e w2 ⟨rfl, hb2⟩
    go_wp2_with fail
    refine (HA.out _).mono ?_
    rintro e w3 ⟨rfl, hb3⟩
    go_wp2_with fail
    refine (HP.out _).mono ?_
    rintro e w4 ⟨rfl, ⟨m3, rfl⟩⟩
    go_wp2_with fail
    go_ret2
    exact ⟨rfl, pw_below_drewN (((pw_below_drewN (Below.refl _ _) _).trans hb2).trans (hb3.mono hb2.size)) _⟩
theorem parse_i (s t a b : ByteArray) (v : Int) (w : World) (hs : s.size ≤ 140737488351232) (ht : trimB s 45 = t) (hts : t.size ≤ s.size) (hc : cutAt t 46 = (a, b, true)) (hab : a.size + b.size ≤ s.size) (ha : (a.toList == []) = false) (hb : b.size = 2) (hf : badDig (a ++ b) = false) (h0 : 0 < a.size) (hzn : ((a[0]'h0).toNat : Int) = 48 → (a.toList == [48]) = true) (h9 : a.size ≤ 9) (hv : Lib.atoiAll (a ++ b).data.toList = .ok v) (hp : startsB s 45 = true) (h2 : ¬ v = 0) (h1 : 1000000000 < v) :
    Calls Tryd.prog 25 #[.string s] w fun e w' => e = .returned (.tuple #[.int .i64 0, .int .i64 3]) ∧ Below w.heap.size w w' := by
  have HT := Lib.hid (fun W => trim_one s 45 W)
  rw [ht] at HT
  have HC := Lib.hid (fun W => cut_one t 46 W (by omega))
  rw [hc] at HC
  clear ht hc
  have hb1 : (b.size : Int) = 2 := by omega
  have g0 : (0 : Int) < (a.size : Int) := by omega
  have g1 : a.size + b.size ≤ 9223372036854775807 := by omega
  have HF := Lib.hid (fun W => contains_dig (a ++ b) W)
  rw [hf] at HF
  clear hf
  have g9 : ¬ (9 : Int) < (a.size : Int) := by omega
  have HA := Lib.hid (fun W => atoi_ok (a ++ b) v W (by simp only [ByteArray.size_append]; omega) hv)
  clear hv
  have HP := Lib.hid (fun W => has_one s 45 W)
  rw [hp] at HP
  clear hp
  by_cases hz : ((a[0]'h0).toNat : Int) = 48
  · have hn := hzn hz
    clear hzn
    go_enter Tryd.func25, Tryd.ntmps25
    go_wp2_with fail
    refine (HT.out _).mono ?_
    rintro e w1 ⟨rfl, ⟨m, rfl⟩⟩
    go_wp2_with fail
    refine (HC.out _).mono ?_
    rintro e w1 ⟨rfl, ⟨m2, rfl⟩⟩
    go_wp2_with fail
    refine (HF.out _).mono ?_
    rintro e w2 ⟨rfl, hb2⟩
    go_wp2_with fail
    refine (HA.out _).mono ?_
    rintro e w3 ⟨rfl, hb3⟩
    go_wp2_with fail
    refine (HP.out _).mono ?_
    rintro e w4 ⟨rfl, ⟨m3, rfl⟩⟩
    go_wp2_with fail
    go_ret2
    exact ⟨rfl, pw_below_drewN (((pw_below_drewN (Below.refl _ _) _).trans hb2).trans (hb3.mono hb2.size)) _⟩
  · clear hzn
    go_enter Tryd.func25, Tryd.ntmps25
    go_wp2_with fail
    refine (HT.out _).mono ?_
    rintro e w1 ⟨rfl, ⟨m, rfl⟩⟩
    go_wp2_with fail
    refine (HC.out _).mono ?_
    rintro e w1 ⟨rfl, ⟨m2, rfl⟩⟩
    go_wp2_with fail
    refine (HF.out _).mono ?_
    rintro e w2 ⟨rfl, hb2⟩
    go_wp2_with fail
    refine (HA.out _).mono ?_
    rintro e w3 ⟨rfl, hb3⟩
    go_wp2_with fail
    refine (HP.out _).mono ?_
    rintro e w4 ⟨rfl, ⟨m3, rfl⟩⟩
    go_wp2_with fail
    go_ret2
    exact ⟨rfl, pw_below_drewN (((pw_below_drewN (Below.refl _ _) _).trans hb2).trans (hb3.mono hb2.size)) _⟩
theorem parse_j (s t a b : ByteArray) (v : Int) (w : World) (hs : s.size ≤ 140737488351232) (ht : trimB s 45 = t) (hts : t.size ≤ s.size) (hc : cutAt t 46 = (a, b, true)) (hab : a.size + b.size ≤ s.size) (ha : (a.toList == []) = false) (hb : b.size = 2) (hf : badDig (a ++ b) = false) (h0 : 0 < a.size) (hzn : ((a[0]'h0).toNat : Int) = 48 → (a.toList == [48]) = true) (h9 : a.size ≤ 9) (hv : Lib.atoiAll (a ++ b).data.toList = .ok v) (hp : startsB s 45 = true) (h2 : ¬ v = 0) (h0v : 0 ≤ v) (h1 : v ≤ 1000000000) :
    Calls Tryd.prog 25 #[.string s] w fun e w' => e = .returned (.tuple #[.int .i64 (-v), .int .i64 0]) ∧ Below w.heap.size w w' := by
  have HT := Lib.hid (fun W => trim_one s 45 W)
  rw [ht] at HT
  have HC := Lib.hid (fun W => cut_one t 46 W (by omega))
  rw [hc] at HC
  clear ht hc
  have hb1 : (b.size : Int) = 2 := by omega
  have g0 : (0 : Int) < (a.size : Int) := by omega
  have g1 : a.size + b.size ≤ 9223372036854775807 := by omega
  have HF := Lib.hid (fun W => contains_dig (a ++ b) W)
  rw [hf] at HF
  clear hf
  have g9 : ¬ (9 : Int) < (a.size : Int) := by omega
  have HA := Lib.hid (fun W => atoi_ok (a ++ b) v W (by simp only [ByteArray.size_append]; omega) hv)
  clear hv
  have HP := Lib.hid (fun W => has_one s 45 W)
  rw [hp] at HP
  clear hp
  have hwv := wrap_i64 (-v) (by omega) (by omega)
  by_cases hz : ((a[0]'h0).toNat : Int) = 48
  · have hn := hzn hz
    clear hzn
    go_enter Tryd.func25, Tryd.ntmps25
    go_wp2_with fail
    refine (HT.out _).mono ?_
    rintro e w1 ⟨rfl, ⟨m, rfl⟩⟩
    go_wp2_with fail
    refine (HC.out _).mono ?_
    rintro e w1 ⟨rfl, ⟨m2, rfl⟩⟩
    go_wp2_with fail
    refine (HF.out _).mono ?_
    rintro e w2 ⟨rfl, hb2⟩
    go_wp2_with fail
    refine (HA.out _).mono ?_
    rintro e w3 ⟨rfl, hb3⟩
    go_wp2_with fail
    refine (HP.out _).mono ?_
    rintro e w4 ⟨rfl, ⟨m3, rfl⟩⟩
    go_wp2_with fail
    go_ret2
    exact ⟨rfl, pw_below_drewN (((pw_below_drewN (Below.refl _ _) _).trans hb2).trans (hb3.mono hb2.size)) _⟩
  · clear hzn
    go_enter Tryd.func25, Tryd.ntmps25
    go_wp2_with fail
    refine (HT.out _).mono ?_
    rintro e w1 ⟨rfl, ⟨m, rfl⟩⟩
    go_wp2_with fail
    refine (HC.out _).mono ?_
    rintro e w1 ⟨rfl, ⟨m2, rfl⟩⟩
    go_wp2_with fail
    refine (HF.out _).mono ?_
    rintro e w2 ⟨rfl, hb2⟩
    go_wp2_with fail
    refine (HA.out _).mono ?_
    rintro e w3 ⟨rfl, hb3⟩
    go_wp2_with fail
    refine (HP.out _).mono ?_
    rintro e w4 ⟨rfl, ⟨m3, rfl⟩⟩
    go_wp2_with fail
    go_ret2
    exact ⟨rfl, pw_below_drewN (((pw_below_drewN (Below.refl _ _) _).trans hb2).trans (hb3.mono hb2.size)) _⟩
theorem parse_k (s t a b : ByteArray) (v : Int) (w : World) (hs : s.size ≤ 140737488351232) (ht : trimB s 45 = t) (hts : t.size ≤ s.size) (hc : cutAt t 46 = (a, b, true)) (hab : a.size + b.size ≤ s.size) (ha : (a.toList == []) = false) (hb : b.size = 2) (hf : badDig (a ++ b) = false) (h0 : 0 < a.size) (hzn : ((a[0]'h0).toNat : Int) = 48 → (a.toList == [48]) = true) (h9 : a.size ≤ 9) (hv : Lib.atoiAll (a ++ b).data.toList = .ok v) (hp : startsB s 45 = false) (h1 : v ≤ 1000000000) :
    Calls Tryd.prog 25 #[.string s] w fun e w' => e = .returned (.tuple #[.int .i64 v, .int .i64 0]) ∧ Below w.heap.size w w' := by
  have HT := Lib.hid (fun W => trim_one s 45 W)
  rw [ht] at HT
  have HC := Lib.hid (fun W => cut_one t 46 W (by omega))
  rw [hc] at HC
  clear ht hc
  have hb1 : (b.size : Int) = 2 := by omega
  have g0 : (0 : Int) < (a.size : Int) := by omega
  have g1 : a.size + b.size ≤ 9223372036854775807 := by omega
  have HF := Lib.hid (fun W => contains_dig (a ++ b) W)
  rw [hf] at HF
  clear hf
  have g9 : ¬ (9 : Int) < (a.size : Int) := by omega
  have HA := Lib.hid (fun W => atoi_ok (a ++ b) v W (by simp only [ByteArray.size_append]; omega) hv)
  clear hv
  have HP := Lib.hid (fun W => has_one s 45 W)
  rw [hp] at HP
  clear hp
  by_cases hz : ((a[0]'h0).toNat : Int) = 48
  · have hn := hzn hz
    clear hzn
    go_enter Tryd.func25, Tryd.ntmps25
    go_wp2_with fail
    refine (HT.out _).mono ?_
    rintro e w1 ⟨rfl, ⟨m, rfl⟩⟩
    go_wp2_with fail
    refine (HC.out _).mono ?_
    rintro e w1 ⟨rfl, ⟨m2, rfl⟩⟩
    go_wp2_with fail
    refine (HF.out _).mono ?_
    rintro e w2 ⟨rfl, hb2⟩
    go_wp2_with fail
    refine (HA.out _).mono ?_
    rintro e w3 ⟨rfl, hb3⟩
    go_wp2_with fail
    refine (HP.out _).mono ?_
    rintro e w4 ⟨rfl, ⟨m3, rfl⟩⟩
    go_wp2_with fail
    go_ret2
    exact ⟨rfl, pw_below_drewN (((pw_below_drewN (Below.refl _ _) _).trans hb2).trans (hb3.mono hb2.size)) _⟩
  · clear hzn
    go_enter Tryd.func25, Tryd.ntmps25
    go_wp2_with fail
    refine (HT.out _).mono ?_
    rintro e w1 ⟨rfl, ⟨m, rfl⟩⟩
    go_wp2_with fail
    refine (HC.out _).mono ?_
    rintro e w1 ⟨rfl, ⟨m2, rfl⟩⟩
    go_wp2_with fail
    refine (HF.out _).mono ?_
    rintro e w2 ⟨rfl, hb2⟩
    go_wp2_with fail
    refine (HA.out _).mono ?_
    rintro e w3 ⟨rfl, hb3⟩
    go_wp2_with fail
    refine (HP.out _).mono ?_
    rintro e w4 ⟨rfl, ⟨m3, rfl⟩⟩
    go_wp2_with fail
    go_ret2
    exact ⟨rfl, pw_below_drewN (((pw_below_drewN (Below.refl _ _) _).trans hb2).trans (hb3.mono hb2.size)) _⟩
theorem trimB_size (s : ByteArray) (c : UInt8) : (trimB s c).size ≤ s.size := by
  unfold trimB
  split
  · simp
  · omega
theorem cutAt_size (s : ByteArray) (c : UInt8) : (cutAt s c).1.size + (cutAt s c).2.1.size ≤ s.size := by
  have h := indexByte_lt s.data.toList c
  unfold cutAt
  split
  · simp only [ByteArray.size_extract]
    omega
  · show s.size + 0 ≤ s.size
    omega
def money_Parse.f (s : ByteArray) : Option (Int × Int) :=
  if s.size ≤ 140737488351232 then
    if (cutAt (trimB s 45) 46).2.2 = false then some (0, 8)
    else if ((cutAt (trimB s 45) 46).1.toList == []) = true then some (0, 8)
    else if ¬ (cutAt (trimB s 45) 46).2.1.size = 2 then some (0, 8)
    else if badDig ((cutAt (trimB s 45) 46).1 ++ (cutAt (trimB s 45) 46).2.1) = true then some (0, 8)
    else if (cutAt (trimB s 45) 46).1.data.toList.head? = some 48 ∧ ((cutAt (trimB s 45) 46).1.toList == [48]) = false then some (0, 8)
    else if 9 < (cutAt (trimB s 45) 46).1.size then some (0, 3)
    else match Lib.atoiAll ((cutAt (trimB s 45) 46).1 ++ (cutAt (trimB s 45) 46).2.1).data.toList with
      | .ok v => if startsB s 45 = true then (if v = 0 then some (0, 8) else if 1000000000 < v then some (0, 3) else if 0 ≤ v then some (-v, 0) else none) else (if 1000000000 < v then some (0, 3) else some (v, 0))
      | _ => none
  else none
set_option maxHeartbeats 2000000 in
theorem money_Parse.calls (a0 : ByteArray) (r1 r2 : Int) (w : World) (h : money_Parse.f a0 = some (r1, r2)) :
    Calls Tryd.prog 25 #[.string a0] w fun e w' => e = .returned (.tuple #[.int .i64 r1, .int .i64 r2]) ∧ Below w.heap.size w w' := by
  unfold money_Parse.f at h
  have hts := trimB_size a0 45
  have hcs := cutAt_size (trimB a0 45) 46
  obtain ⟨t, ht⟩ : ∃ t, trimB a0 45 = t := ⟨_, rfl⟩
  rw [ht] at h hts hcs
  obtain ⟨a, b, ok, hc⟩ : ∃ a b ok, cutAt t 46 = (a, b, ok) := ⟨_, _, _, rfl⟩
  rw [hc] at h hcs
  simp only at h hcs
  have hab : a.size + b.size ≤ a0.size := by omega
  split at h
  · rename_i hs
    split at h
    · rename_i h1
      subst h1
      cases h
      exact parse_a a0 t a b w hs ht hts hc hab
    · rename_i h1
      have h1' : ok = true := by cases ok <;> simp_all
      subst h1'
      split at h
      · rename_i h2
        cases h
        exact parse_b a0 t a b w hs ht hts hc hab h2
      · rename_i h2
        have h2' : (a.toList == []) = false := Bool.eq_false_iff.mpr h2
        have h0 : 0 < a.size := by
          rcases Nat.eq_zero_or_pos a.size with h | h
          · exfalso
            apply h2
            have : a = ByteArray.empty := ByteArray.size_eq_zero_iff.mp h
            subst this
            decide +kernel
          · exact h
        split at h
        · rename_i h3
          cases h
          exact parse_c a0 t a b w hs ht hts hc hab h2' h3
        · rename_i h3
          have h3' : b.size = 2 := by omega
          split at h
          · rename_i h4
            cases h
            exact parse_d a0 t a b w hs ht hts hc hab h2' h3' h4
          · rename_i h4
            have h4' := Bool.eq_false_iff.mpr h4
            have hd : a.data.toList.head? = some (a[0]'h0) := by
              have : a.data.toList ≠ [] := by
                intro e
                have : a.data.toList.length = 0 := by rw [e]; rfl
                rw [Array.length_toList] at this
                exact absurd h0 (by show ¬ 0 < a.data.size; omega)
              rw [List.head?_eq_some_head this]
              congr 1
              rw [List.head_eq_getElem]
              rfl
            split at h
            · rename_i h5
              cases h
              refine parse_e a0 t a b w hs ht hts hc hab h2' h3' h4' h0 ?_ h5.2
              rw [hd] at h5
              rw [Option.some.inj h5.1]
              rfl
            · rename_i h5
              have hzn : ((a[0]'h0).toNat : Int) = 48 → (a.toList == [48]) = true := by
                intro hz
                cases hq : (a.toList == [48]) with
                | true => rfl
                | false =>
                  exfalso
                  apply h5
                  refine ⟨?_, hq⟩
                  rw [hd]
                  congr 1
                  apply UInt8.toNat_inj.mp
                  show (a[0]'h0).toNat = 48
                  omega
              split at h
              · rename_i h9
                cases h
                exact parse_f a0 t a b w hs ht hts hc hab h2' h3' h4' h0 hzn h9
              · rename_i h9
                have h9' : a.size ≤ 9 := by omega
                split at h
                · rename_i v hv
                  split at h
                  · rename_i hp
                    split at h
                    · rename_i hv0
                      cases h
                      exact parse_g a0 t a b v w hs ht hts hc hab h2' h3' h4' h0 hzn h9' hv hp hv0
                    · rename_i hv0
                      split at h
                      · rename_i hv1
                        cases h
                        exact parse_i a0 t a b v w hs ht hts hc hab h2' h3' h4' h0 hzn h9' hv hp hv0 hv1
                      · rename_i hv1
                        split at h
                        · rename_i hv2
                          cases h
                          exact parse_j a0 t a b v w hs ht hts hc hab h2' h3' h4' h0 hzn h9' hv hp hv0 hv2 (by omega)
                        · cases h
                  · rename_i hp
                    have hp' := Bool.eq_false_iff.mpr hp
                    split at h
                    · rename_i hv1
                      cases h
                      exact parse_h a0 t a b v w hs ht hts hc hab h2' h3' h4' h0 hzn h9' hv hp' hv1
                    · rename_i hv1
                      cases h
                      exact parse_k a0 t a b _ w hs ht hts hc hab h2' h3' h4' h0 hzn h9' hv hp' (by omega)
                · cases h
  · cases h

end Go.Proofs.YtcbhaoaameiacaaDoor.X
