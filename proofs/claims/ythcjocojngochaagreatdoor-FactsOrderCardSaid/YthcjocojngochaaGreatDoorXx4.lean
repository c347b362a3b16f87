-- Written by a program of mine (wip/tools/xprint.py) over the kit's print.py: printed functions and hand-proved ones side by side.
import Derived.Test.YthcjocojngochaaGreatDoorXx0
namespace Go.Proofs.YthcjocojngochaaGreatDoor.X
open Go.RowKit Go.Proofs.YthcjocojngochaaGreatDoorW.PrintWords Go.Proofs.YthcjocojngochaaGreatDoorW.PrintLast Go.Proofs.YthcjocojngochaaGreatDoorW.PrintMore
attribute [local go_sem] max2_int min2_int max_two min_two max_three min_three max_four min_four   -- for this text's walks alone
set_option linter.unusedVariables false
set_option linter.unusedSimpArgs false

/-! ### facts_isHome: function 64 -/
def facts_isHome.f (a0 : Int) : Option (Bool) := if 1 ≤ a0 then (some (decide (a0 ≤ 64))) else (some false)
set_option maxHeartbeats 8000000 in
set_option maxRecDepth 100000 in
theorem facts_isHome.calls (a0 : Int) (r : Bool) (w : World) (h : facts_isHome.f a0 = some r) :
    Calls Tryz.prog 64 #[.int .i64 a0] w fun e w' => e = .returned (.bool r) ∧ Drawn0 w w' := by
  have H : (if 1 ≤ a0 then (some (decide (a0 ≤ 64))) else (some false)) = some r := h
  clear h
  by_cases c2 : 1 ≤ a0
  · rw [if_pos c2] at H
    have c2b0 : decide (1 ≤ a0) = true := decide_eq_true c2
    clear c2
    obtain rfl := Option.some.inj H
    go_enter Tryz.func64, Tryz.ntmps64
    go_wp2
    go_ret
    exact ⟨by first | rfl | (simp; done) | (simp [*]; done), by repeat (first | exact Drawn0.refl _ | apply Drawn0.step)⟩
  · rw [if_neg c2] at H
    have c2b0 : decide (1 ≤ a0) = false := decide_eq_false c2
    clear c2
    obtain rfl := Option.some.inj H
    go_enter Tryz.func64, Tryz.ntmps64
    go_wp2
    go_ret
    exact ⟨by first | rfl | (simp; done) | (simp [*]; done), by repeat (first | exact Drawn0.refl _ | apply Drawn0.step)⟩

/-! ### lexer_digit: function 153 -/
def lexer_digit.f (a0 : Int) : Option (Bool) := if 48 ≤ a0 then (some (decide (a0 ≤ 57))) else (some false)
set_option maxHeartbeats 8000000 in
set_option maxRecDepth 100000 in
theorem lexer_digit.calls (a0 : Int) (r : Bool) (w : World) (h : lexer_digit.f a0 = some r) :
    Calls Tryz.prog 153 #[.int .u8 a0] w fun e w' => e = .returned (.bool r) ∧ Drawn0 w w' := by
  have H : (if 48 ≤ a0 then (some (decide (a0 ≤ 57))) else (some false)) = some r := h
  clear h
  by_cases c2 : 48 ≤ a0
  · rw [if_pos c2] at H
    have c2b0 : decide (48 ≤ a0) = true := decide_eq_true c2
    clear c2
    obtain rfl := Option.some.inj H
    go_enter Tryz.func153, Tryz.ntmps153
    go_wp2
    go_ret
    exact ⟨by first | rfl | (simp; done) | (simp [*]; done), by repeat (first | exact Drawn0.refl _ | apply Drawn0.step)⟩
  · rw [if_neg c2] at H
    have c2b0 : decide (48 ≤ a0) = false := decide_eq_false c2
    clear c2
    obtain rfl := Option.some.inj H
    go_enter Tryz.func153, Tryz.ntmps153
    go_wp2
    go_ret
    exact ⟨by first | rfl | (simp; done) | (simp [*]; done), by repeat (first | exact Drawn0.refl _ | apply Drawn0.step)⟩

/-! ### lexer_letter: function 154 -/
def lexer_letter.f (a0 : Int) : Option (Bool) := if 97 ≤ a0 then (some (decide (a0 ≤ 122))) else (some false)
set_option maxHeartbeats 8000000 in
set_option maxRecDepth 100000 in
theorem lexer_letter.calls (a0 : Int) (r : Bool) (w : World) (h : lexer_letter.f a0 = some r) :
    Calls Tryz.prog 154 #[.int .u8 a0] w fun e w' => e = .returned (.bool r) ∧ Drawn0 w w' := by
  have H : (if 97 ≤ a0 then (some (decide (a0 ≤ 122))) else (some false)) = some r := h
  clear h
  by_cases c2 : 97 ≤ a0
  · rw [if_pos c2] at H
    have c2b0 : decide (97 ≤ a0) = true := decide_eq_true c2
    clear c2
    obtain rfl := Option.some.inj H
    go_enter Tryz.func154, Tryz.ntmps154
    go_wp2
    go_ret
    exact ⟨by first | rfl | (simp; done) | (simp [*]; done), by repeat (first | exact Drawn0.refl _ | apply Drawn0.step)⟩
  · rw [if_neg c2] at H
    have c2b0 : decide (97 ≤ a0) = false := decide_eq_false c2
    clear c2
    obtain rfl := Option.some.inj H
    go_enter Tryz.func154, Tryz.ntmps154
    go_wp2
    go_ret
    exact ⟨by first | rfl | (simp; done) | (simp [*]; done), by repeat (first | exact Drawn0.refl _ | apply Drawn0.step)⟩

/-! ### lexer_part: function 156 -/
def lexer_part.f (a0 : Int) (a1 : Bool) : Option (Bool) := (lexer_letter.f a0).bind fun t106 => (if t106 = true then (some true) else ((lexer_digit.f a0).bind fun t107 => (if t107 = true then (some true) else (if a0 = 95 then (some true) else (if a1 = true then (some (a0 == 46)) else (some false))))))
set_option maxHeartbeats 8000000 in
set_option maxRecDepth 100000 in
theorem lexer_part.calls (a0 : Int) (a1 : Bool) (r : Bool) (w : World) (h : lexer_part.f a0 a1 = some r) :
    Calls Tryz.prog 156 #[.int .u8 a0, .bool a1] w fun e w' => e = .returned (.bool r) ∧ Drawn0 w w' := by
  have H : ((lexer_letter.f a0).bind fun t106 => (if t106 = true then (some true) else ((lexer_digit.f a0).bind fun t107 => (if t107 = true then (some true) else (if a0 = 95 then (some true) else (if a1 = true then (some (a0 == 46)) else (some false))))))) = some r := h
  clear h
  replace H := Option.bind_eq_some_iff.mp H
  obtain ⟨t106, A30, H⟩ := H
  replace H : (if t106 = true then (some true) else ((lexer_digit.f a0).bind fun t107 => (if t107 = true then (some true) else (if a0 = 95 then (some true) else (if a1 = true then (some (a0 == 46)) else (some false)))))) = some r := H
  have A3 := Aside0.mk A30
  clear A30
  by_cases c4 : t106 = true
  · subst c4
    have H1 : (some true) = some r := by rw [if_pos rfl] at H; exact H
    clear H
    have H := H1
    clear H1
    obtain rfl := Option.some.inj H
    go_enter Tryz.func156, Tryz.ntmps156
    go_wp2_with (first | ((with_reducible refine gate_callee (f := 154) rfl ?_); refine goesL_ (some 6) rfl rfl Tryz.func154 (by kernel_rfl) rfl #[.int .u8 a0] rfl (by (try simp only [List.map_toArray, List.map_cons, List.map_nil]); first | done | rfl | (simp only [List.length_drop, List.length_take]; rfl)) ?_; (with_reducible refine (lexer_letter.calls a0 true _ A3.out).mono ?_); rintro e w' ⟨rfl, ⟨nd, rfl⟩⟩; refine ⟨_, rfl, ?_⟩))
    go_ret
    exact ⟨by first | rfl | (simp; done) | (simp [*]; done), by repeat (first | exact Drawn0.refl _ | apply Drawn0.step)⟩
  · replace c4 := Bool.eq_false_iff.mpr c4
    subst c4
    have H1 : ((lexer_digit.f a0).bind fun t107 => (if t107 = true then (some true) else (if a0 = 95 then (some true) else (if a1 = true then (some (a0 == 46)) else (some false))))) = some r := by rw [if_neg (show ¬ (false = true) by decide)] at H; exact H
    clear H
    have H := H1
    clear H1
    replace H := Option.bind_eq_some_iff.mp H
    obtain ⟨t107, A50, H⟩ := H
    replace H : (if t107 = true then (some true) else (if a0 = 95 then (some true) else (if a1 = true then (some (a0 == 46)) else (some false)))) = some r := H
    have A5 := Aside0.mk A50
    clear A50
    by_cases c6 : t107 = true
    · subst c6
      have H1 : (some true) = some r := by rw [if_pos rfl] at H; exact H
      clear H
      have H := H1
      clear H1
      obtain rfl := Option.some.inj H
      go_enter Tryz.func156, Tryz.ntmps156
      go_wp2_with (first | ((with_reducible refine gate_callee (f := 154) rfl ?_); refine goesL_ (some 6) rfl rfl Tryz.func154 (by kernel_rfl) rfl #[.int .u8 a0] rfl (by (try simp only [List.map_toArray, List.map_cons, List.map_nil]); first | done | rfl | (simp only [List.length_drop, List.length_take]; rfl)) ?_; (with_reducible refine (lexer_letter.calls a0 false _ A3.out).mono ?_); rintro e w' ⟨rfl, ⟨nd, rfl⟩⟩; refine ⟨_, rfl, ?_⟩) | (go_at_call 153; (with_reducible refine (lexer_digit.calls a0 true _ A5.out).mono ?_); rintro e w' ⟨rfl, ⟨nd, rfl⟩⟩))
      go_ret
      exact ⟨by first | rfl | (simp; done) | (simp [*]; done), by repeat (first | exact Drawn0.refl _ | apply Drawn0.step)⟩
    · replace c6 := Bool.eq_false_iff.mpr c6
      subst c6
      have H1 : (if a0 = 95 then (some true) else (if a1 = true then (some (a0 == 46)) else (some false))) = some r := by rw [if_neg (show ¬ (false = true) by decide)] at H; exact H
      clear H
      have H := H1
      clear H1
      by_cases c7 : a0 = 95
      · rw [if_pos c7] at H
        have c7b0 : (a0 == 95) = true := beq_iff_eq.mpr c7
        have c7b1 : (a0 != 95) = false := bne_eq_false_iff_eq.mpr c7
        clear c7
        obtain rfl := Option.some.inj H
        go_enter Tryz.func156, Tryz.ntmps156
        go_wp2_with (first | ((with_reducible refine gate_callee (f := 154) rfl ?_); refine goesL_ (some 6) rfl rfl Tryz.func154 (by kernel_rfl) rfl #[.int .u8 a0] rfl (by (try simp only [List.map_toArray, List.map_cons, List.map_nil]); first | done | rfl | (simp only [List.length_drop, List.length_take]; rfl)) ?_; (with_reducible refine (lexer_letter.calls a0 false _ A3.out).mono ?_); rintro e w' ⟨rfl, ⟨nd, rfl⟩⟩; refine ⟨_, rfl, ?_⟩) | (go_at_call 153; (with_reducible refine (lexer_digit.calls a0 false _ A5.out).mono ?_); rintro e w' ⟨rfl, ⟨nd, rfl⟩⟩))
        go_ret
        exact ⟨by first | rfl | (simp; done) | (simp [*]; done), by repeat (first | exact Drawn0.refl _ | apply Drawn0.step)⟩
      · rw [if_neg c7] at H
        have c7b0 : (a0 == 95) = false := beq_eq_false_iff_ne.mpr c7
        have c7b1 : (a0 != 95) = true := bne_iff_ne.mpr c7
        by_cases c8 : a1 = true
        · subst c8
          have H1 : (some (a0 == 46)) = some r := by rw [if_pos rfl] at H; exact H
          clear H
          have H := H1
          clear H1
          obtain rfl := Option.some.inj H
          go_enter Tryz.func156, Tryz.ntmps156
          go_wp2_with (first | ((with_reducible refine gate_callee (f := 154) rfl ?_); refine goesL_ (some 6) rfl rfl Tryz.func154 (by kernel_rfl) rfl #[.int .u8 a0] rfl (by (try simp only [List.map_toArray, List.map_cons, List.map_nil]); first | done | rfl | (simp only [List.length_drop, List.length_take]; rfl)) ?_; (with_reducible refine (lexer_letter.calls a0 false _ A3.out).mono ?_); rintro e w' ⟨rfl, ⟨nd, rfl⟩⟩; refine ⟨_, rfl, ?_⟩) | (go_at_call 153; (with_reducible refine (lexer_digit.calls a0 false _ A5.out).mono ?_); rintro e w' ⟨rfl, ⟨nd, rfl⟩⟩))
          go_ret
          exact ⟨by first | rfl | (simp; done) | (simp [*]; done), by repeat (first | exact Drawn0.refl _ | apply Drawn0.step)⟩
        · replace c8 := Bool.eq_false_iff.mpr c8
          subst c8
          have H1 : (some false) = some r := by rw [if_neg (show ¬ (false = true) by decide)] at H; exact H
          clear H
          have H := H1
          clear H1
          obtain rfl := Option.some.inj H
          go_enter Tryz.func156, Tryz.ntmps156
          go_wp2_with (first | ((with_reducible refine gate_callee (f := 154) rfl ?_); refine goesL_ (some 6) rfl rfl Tryz.func154 (by kernel_rfl) rfl #[.int .u8 a0] rfl (by (try simp only [List.map_toArray, List.map_cons, List.map_nil]); first | done | rfl | (simp only [List.length_drop, List.length_take]; rfl)) ?_; (with_reducible refine (lexer_letter.calls a0 false _ A3.out).mono ?_); rintro e w' ⟨rfl, ⟨nd, rfl⟩⟩; refine ⟨_, rfl, ?_⟩) | (go_at_call 153; (with_reducible refine (lexer_digit.calls a0 false _ A5.out).mono ?_); rintro e w' ⟨rfl, ⟨nd, rfl⟩⟩))
          go_ret
          exact ⟨by first | rfl | (simp; done) | (simp [*]; done), by repeat (first | exact Drawn0.refl _ | apply Drawn0.step)⟩

/-! ### stringslite_HasPrefix: function 173 -/
def stringslite_HasPrefix.f (a0 : ByteArray) (a1 : ByteArray) : Option (Bool) := if (a0.size : Int) ≥ (a1.size : Int) then (if 0 ≤ (a1.size : Int) then (if (a1.size : Int) ≤ (a0.size : Int) then (some ((a0.extract 0 ((a1.size : Int) : Int).toNat).toList == a1.toList)) else (none)) else (none)) else (some false)
set_option maxHeartbeats 8000000 in
set_option maxRecDepth 100000 in
theorem stringslite_HasPrefix.calls (a0 : ByteArray) (a1 : ByteArray) (r : Bool) (w : World) (h : stringslite_HasPrefix.f a0 a1 = some r) :
    Calls Tryz.prog 173 #[.string a0, .string a1] w fun e w' => e = .returned (.bool r) ∧ Drawn0 w w' := by
  have H : (if (a0.size : Int) ≥ (a1.size : Int) then (if 0 ≤ (a1.size : Int) then (if (a1.size : Int) ≤ (a0.size : Int) then (some ((a0.extract 0 ((a1.size : Int) : Int).toNat).toList == a1.toList)) else (none)) else (none)) else (some false)) = some r := h
  clear h
  by_cases c3 : (a0.size : Int) ≥ (a1.size : Int)
  · rw [if_pos c3] at H
    have c3b0 : decide ((a1.size : Int) ≤ (a0.size : Int)) = true := decide_eq_true c3
    have c3b1 : decide (a1.size ≤ a0.size) = true := decide_eq_true (Int.ofNat_le.mp c3)
    clear c3
    by_cases c4 : 0 ≤ (a1.size : Int)
    · rw [if_pos c4] at H
      have c4b0 := eq_true c4
      have c4b1 : decide (0 ≤ (a1.size : Int)) = true := decide_eq_true c4
      clear c4
      by_cases c5 : (a1.size : Int) ≤ (a0.size : Int)
      · rw [if_pos c5] at H
        have c5b0 := eq_true c5
        have c5b1 : decide ((a1.size : Int) ≤ (a0.size : Int)) = true := decide_eq_true c5
        clear c5
        obtain rfl := Option.some.inj H
        go_enter Tryz.func173, Tryz.ntmps173
        go_wp2
        go_ret
        exact ⟨by first | rfl | (simp; done) | (simp [*]; done), by repeat (first | exact Drawn0.refl _ | apply Drawn0.step)⟩
      · rw [if_neg c5] at H
        exact absurd H (by simp)
    · rw [if_neg c4] at H
      exact absurd H (by simp)
  · rw [if_neg c3] at H
    have c3b0 : decide ((a1.size : Int) ≤ (a0.size : Int)) = false := decide_eq_false c3
    have c3b1 : decide (a1.size ≤ a0.size) = false := decide_eq_false (fun h => c3 (Int.ofNat_le.mpr h))
    clear c3
    obtain rfl := Option.some.inj H
    go_enter Tryz.func173, Tryz.ntmps173
    go_wp2
    go_ret
    exact ⟨by first | rfl | (simp; done) | (simp [*]; done), by repeat (first | exact Drawn0.refl _ | apply Drawn0.step)⟩

/-! ### strings_HasPrefix: function 165 -/
def strings_HasPrefix.f (a0 : ByteArray) (a1 : ByteArray) : Option (Bool) := (stringslite_HasPrefix.f a0 a1).bind fun t108 => (some t108)
set_option maxHeartbeats 8000000 in
set_option maxRecDepth 100000 in
theorem strings_HasPrefix.calls (a0 : ByteArray) (a1 : ByteArray) (r : Bool) (w : World) (h : strings_HasPrefix.f a0 a1 = some r) :
    Calls Tryz.prog 165 #[.string a0, .string a1] w fun e w' => e = .returned (.bool r) ∧ Drawn0 w w' := by
  have H : ((stringslite_HasPrefix.f a0 a1).bind fun t108 => (some t108)) = some r := h
  clear h
  replace H := Option.bind_eq_some_iff.mp H
  obtain ⟨t108, A30, H⟩ := H
  replace H : (some t108) = some r := H
  have A3 := Aside0.mk A30
  clear A30
  obtain rfl := Option.some.inj H
  go_enter Tryz.func165, Tryz.ntmps165
  go_wp2_with (first | ((with_reducible refine gate_callee (f := 173) rfl ?_); refine goesL_ (some 7) rfl rfl Tryz.func173 (by kernel_rfl) rfl #[.string a0, .string a1] rfl (by (try simp only [List.map_toArray, List.map_cons, List.map_nil]); first | done | rfl | (simp only [List.length_drop, List.length_take]; rfl)) ?_; (with_reducible refine (stringslite_HasPrefix.calls a0 a1 t108 _ A3.out).mono ?_); rintro e w' ⟨rfl, ⟨nd, rfl⟩⟩; refine ⟨_, rfl, ?_⟩))
  go_ret
  exact ⟨by first | rfl | (simp; done) | (simp [*]; done), by repeat (first | exact Drawn0.refl _ | apply Drawn0.step)⟩

/-! ### strings_Cut: function 166 -/
-- by hand: strings.Cut
def cutAt (s : ByteArray) (c : UInt8) : ByteArray × ByteArray × Bool :=
  if 0 ≤ Lib.indexByte s.data.toList c then (s.extract 0 (Lib.indexByte s.data.toList c).toNat, s.extract ((Lib.indexByte s.data.toList c).toNat + 1) s.size, true) else (s, ⟨#[]⟩, false)
theorem indexByte_lt : ∀ (l : List UInt8) (c : UInt8), Lib.indexByte l c < l.length
  | [], c => by simp [Lib.indexByte]
  | b :: l, c => by
    have h := indexByte_lt l c
    simp only [Lib.indexByte, List.length_cons]
    split
    · omega
    · split <;> omega
theorem slite_cut (s : ByteArray) (c : UInt8) (w : World) (hs : s.size ≤ 9223372036854775806) :
    Calls Tryz.prog 174 #[.string s, .string ⟨#[c]⟩] w fun e w' => e = .returned (.tuple #[.string (cutAt s c).1, .string (cutAt s c).2.1, .bool (cutAt s c).2.2]) ∧ Drawn0 w w' := by
  have hi := indexByte_lt s.data.toList c
  have hI : ∀ W, Calls Tryz.prog 179 #[.string s, .string ⟨#[c]⟩] W fun e w' => e = .returned (.int .i64 (Lib.indexByte s.data.toList c)) ∧ w' = W := fun W => Tryz.stringslite_Index_one s c W
  have hlen : s.data.toList.length = s.size := by simp
  rw [hlen] at hi
  by_cases h0 : 0 ≤ Lib.indexByte s.data.toList c
  · have e1 : cutAt s c = (s.extract 0 (Lib.indexByte s.data.toList c).toNat, s.extract ((Lib.indexByte s.data.toList c).toNat + 1) s.size, true) := by unfold cutAt; rw [if_pos h0]
    rw [e1]
    clear e1
    obtain ⟨i, hii⟩ : ∃ i : Nat, Lib.indexByte s.data.toList c = i := ⟨(Lib.indexByte s.data.toList c).toNat, by omega⟩
    rw [hii] at hI h0 hi ⊢
    clear hii hlen
    have hi2 : i < s.size := by omega
    have HI := Lib.hid hI
    clear hI
    go_enter Tryz.func174, Tryz.ntmps174
    go_wp2_with fail
    refine (HI.out _).mono ?_
    rintro e w' ⟨rfl, rfl⟩
    go_wp2_with fail
    have hz : (ByteArray.mk #[c]).size = 1 := rfl
    have g1 : (0 : Int) ≤ (i : Int) := by omega
    have g2 : (i : Int) ≤ (s.size : Int) := by omega
    have g3 : (0 : Int) ≤ (i : Int) + 1 := by omega
    have g4 : (i : Int) + 1 ≤ (s.size : Int) := by omega
    go_region
    go_wp2
    go_ret3
    exact ⟨rfl, (Drawn0.refl _).step 1⟩
  · have e1 : cutAt s c = (s, ⟨#[]⟩, false) := by unfold cutAt; rw [if_neg h0]
    rw [e1]
    clear e1
    have hge := Lib.indexByte_ge s.data.toList c
    have hm : Lib.indexByte s.data.toList c = -1 := by omega
    rw [hm] at hI
    clear hm h0 hge hi hlen
    have HI := Lib.hid hI
    clear hI
    go_enter Tryz.func174, Tryz.ntmps174
    go_wp2_with fail
    refine (HI.out _).mono ?_
    rintro e w' ⟨rfl, rfl⟩
    go_wp2_with fail
    go_ret3
    exact ⟨rfl, Drawn0.refl _⟩
theorem cut_one (s : ByteArray) (c : UInt8) (w : World) (hs : s.size ≤ 9223372036854775806) :
    Calls Tryz.prog 166 #[.string s, .string ⟨#[c]⟩] w fun e w' => e = .returned (.tuple #[.string (cutAt s c).1, .string (cutAt s c).2.1, .bool (cutAt s c).2.2]) ∧ Drawn0 w w' := by
  have H := Lib.hid (fun W => slite_cut s c W hs)
  go_enter Tryz.func166, Tryz.ntmps166
  go_wp2_with fail
  refine (H.out _).mono ?_
  rintro e w' ⟨rfl, hd⟩
  go_wp2_with fail
  go_ret3
  exact ⟨rfl, hd⟩
/-- At a separator of one byte. -/
def strings_Cut.f (a0 a1 : ByteArray) : Option (ByteArray × ByteArray × Bool) := if a0.size ≤ 9223372036854775806 then (match a1.data.toList with | [c] => some (cutAt a0 c) | _ => none) else none
theorem strings_Cut.calls (a0 a1 : ByteArray) (r1 r2 : ByteArray) (r3 : Bool) (w : World) (h : strings_Cut.f a0 a1 = some (r1, r2, r3)) :
    Calls Tryz.prog 166 #[.string a0, .string a1] w fun e w' => e = .returned (.tuple #[.string r1, .string r2, .bool r3]) ∧ Drawn0 w w' := by
  unfold strings_Cut.f at h
  split at h
  · rename_i hs
    split at h
    · rename_i c hc
      have e : a1 = ⟨#[c]⟩ := by
        cases a1 with
        | mk d => cases d with
          | mk l => simp at hc; subst hc; rfl
      subst e
      have e2 := Option.some.inj h
      have := cut_one a0 c w hs
      rw [e2] at this
      exact this
    · cases h
  · cases h

/-! ### strconv_Atoi: function 167 -/
-- by hand: strconv.Atoi
theorem atoi_ok (s : ByteArray) (v : Int) (w : World) (hs : s.size ≤ 281474976710656) (h : Lib.atoiAll s.data.toList = .ok v) :
    Calls Tryz.prog 167 #[.string s] w fun e w' => e = .returned (.tuple #[.int .i64 v, .nilIface]) ∧ Below w.heap.size w w' := by
  refine (Tryz.strconv_Atoi_ok s (by omega) v h w).mono ?_
  rintro e w' ⟨rfl, hw⟩
  refine ⟨rfl, ?_⟩
  rcases hw with rfl | ⟨t, rfl⟩
  · exact Below.refl _ _
  · exact Lib.bytesWorld_below _ _ _
theorem atoi_err (s : ByteArray) (w : World) (hG : GL w) (hs : s.size ≤ 281474976710656) (h : ∀ v, Lib.atoiAll s.data.toList ≠ .ok v) :
    Calls Tryz.prog 167 #[.string s] w fun e w' => ∃ (x : Int) (tp : TypeId) (p : Value), e = .returned (.tuple #[.int .i64 x, .iface tp p]) ∧ Below w.heap.size w w' := by
  rcases hc : Lib.atoiAll s.data.toList with v | _ | _
  · exact absurd hc (h v)
  · obtain ⟨tp, p, hv⟩ := hG.syn
    have H : Calls Tryz.prog 167 #[.string s] w fun e w' => ∃ N, e = .returned (.tuple #[.int .i64 0, .iface 194 (.pointer (some ⟨N, 0, none⟩))]) ∧ w.heap.size ≤ N ∧ w'.heap[N]? = some (.cells #[.string ⟨#[65, 116, 111, 105]⟩, .string s, .iface tp p] 202 (0, 0)) ∧ Below w.heap.size w w' := Any.strconv_Atoi_syntax_var Tryz.laysC172 s hs hc tp p w hv
    refine H.mono ?_
    rintro e w' ⟨N, rfl, _, _, hb⟩
    exact ⟨_, _, _, rfl, hb⟩
  · obtain ⟨tp, p, hv⟩ := hG.rng
    have H : Calls Tryz.prog 167 #[.string s] w fun e w' => ∃ N, e = .returned (.tuple #[.int .i64 (Lib.atoiSat s.data.toList), .iface 194 (.pointer (some ⟨N, 0, none⟩))]) ∧ w.heap.size ≤ N ∧ w'.heap[N]? = some (.cells #[.string ⟨#[65, 116, 111, 105]⟩, .string s, .iface tp p] 202 (0, 0)) ∧ Below w.heap.size w w' := Any.strconv_Atoi_range_var Tryz.laysC172 s hs hc tp p w hv
    refine H.mono ?_
    rintro e w' ⟨N, rfl, _, _, hb⟩
    exact ⟨_, _, _, rfl, hb⟩
/-- At a string that spells an int. -/
def strconv_Atoi.f (a0 : ByteArray) : Option (Int × Option Int) := if a0.size ≤ 281474976710656 then (match Lib.atoiAll a0.data.toList with | .ok v => some (v, none) | _ => none) else none
theorem strconv_Atoi.calls (a0 : ByteArray) (r1 : Int) (r2 : Option Int) (w : World) (h : strconv_Atoi.f a0 = some (r1, r2)) :
    Calls Tryz.prog 167 #[.string a0] w fun e w' => e = .returned (.tuple #[.int .i64 r1, errW r2]) ∧ Below w.heap.size w w' := by
  unfold strconv_Atoi.f at h
  split at h
  · rename_i hs
    split at h
    · rename_i v hv
      cases h
      exact atoi_ok a0 _ w hs hv
    · cases h
  · cases h

/-! ### rational_size: function 185 -/
def rational_size.f (a0 : Int) : Option (Int) := if a0 < 0 then (some (IntKind.u64.wrap (-(IntKind.u64.wrap (a0))))) else (some (IntKind.u64.wrap (a0)))
set_option maxHeartbeats 8000000 in
set_option maxRecDepth 100000 in
theorem rational_size.calls (a0 : Int) (r : Int) (w : World) (h : rational_size.f a0 = some r) :
    Calls Tryz.prog 185 #[.int .i64 a0] w fun e w' => e = .returned (.int .u64 r) ∧ Drawn0 w w' := by
  have H : (if a0 < 0 then (some (IntKind.u64.wrap (-(IntKind.u64.wrap (a0))))) else (some (IntKind.u64.wrap (a0)))) = some r := h
  clear h
  by_cases c2 : a0 < 0
  · rw [if_pos c2] at H
    have c2b0 : decide (a0 < 0) = true := decide_eq_true c2
    clear c2
    obtain rfl := Option.some.inj H
    go_enter Tryz.func185, Tryz.ntmps185
    go_wp2
    go_ret
    exact ⟨by first | rfl | (simp; done) | (simp [*]; done), by repeat (first | exact Drawn0.refl _ | apply Drawn0.step)⟩
  · rw [if_neg c2] at H
    have c2b0 : decide (a0 < 0) = false := decide_eq_false c2
    clear c2
    obtain rfl := Option.some.inj H
    go_enter Tryz.func185, Tryz.ntmps185
    go_wp2
    go_ret
    exact ⟨by first | rfl | (simp; done) | (simp [*]; done), by repeat (first | exact Drawn0.refl _ | apply Drawn0.step)⟩

/-! ### rational_common: function 186 -/
-- by hand: cohousing/rational.common
theorem gcd_step (x y : Nat) (hy : y ≠ 0) : Nat.gcd y (x % y) = Nat.gcd x y := by
  rw [Nat.gcd_comm x y, Nat.gcd_rec y x, Nat.gcd_comm]
/-- The greatest common divisor, of numbers from 0 to below 2^64. -/
def rational_common.f (a0 : Int) (a1 : Int) : Option Int := if 0 ≤ a0 ∧ a0 < 18446744073709551616 ∧ 0 ≤ a1 ∧ a1 < 18446744073709551616 then some (Int.gcd a0 a1 : Int) else none
set_option maxHeartbeats 2000000 in
theorem rational_common.calls (a0 : Int) (a1 : Int) (r : Int) (w : World) (h : rational_common.f a0 a1 = some r) :
    Calls Tryz.prog 186 #[.int .u64 a0, .int .u64 a1] w fun e w' => e = .returned (.int .u64 r) ∧ Drawn0 w w' := by
  unfold rational_common.f at h
  split at h
  · rename_i hr
    obtain ⟨h0, h1, h2, h3⟩ := hr
    obtain ⟨a, rfl⟩ := Int.eq_ofNat_of_zero_le h0
    obtain ⟨b, rfl⟩ := Int.eq_ofNat_of_zero_le h2
    obtain rfl := Option.some.inj h
    clear h
    have e0 : Int.gcd (a : Int) (b : Int) = Nat.gcd a b := rfl
    rw [e0]
    clear e0
    go_enter Tryz.func186, Tryz.ntmps186
    go_wp2
    refine wp_scope_straight ?_
    go_wp2
    go_step3
    go_wp2
    go_loopw [0, 1] (fun u v wr => ∃ x y : Nat, u = .int .u64 x ∧ v = .int .u64 y ∧ x < 18446744073709551616 ∧ y < 18446744073709551616 ∧ Aside0 (Nat.gcd x y = Nat.gcd a b) ∧ Drawn0 w wr) (fun _ v _ => (intOf v).toNat)
    case atStart => exact ⟨a, b, rfl, rfl, by omega, by omega, ⟨rfl⟩, Drawn0.refl _⟩
    case round =>
      obtain ⟨x, y, rfl, rfl, hx, hy, HG, hd⟩ := hrel
      by_cases hz : y = 0
      · subst hz
        have hE := HG.out
        rw [Nat.gcd_zero_right] at hE
        have HE := Aside0.mk hE
        clear hE HG
        go_wp2
        simp only [Exit.noGoto]
        go_ret
        exact ⟨by have hx_ := HE.out; subst hx_; rfl, hd⟩
      · have hyb : ((y : Int) == 0) = false := by simp; omega
        have hy0 : ¬ (y : Int) = 0 := by omega
        have HN : Aside0 (Nat.gcd y (x % y) = Nat.gcd a b) := ⟨(gcd_step x y hz).trans HG.out⟩
        have hlt : x % y < y := Nat.mod_lt _ (by omega)
        go_wp2
        go_region
        all_goals
          go_wp2
          go_roundw
          case rel => exact ⟨y, x % y, rfl, by go_num, by omega, by omega, HN, hd.step 1⟩
          case measure => simp [intOf]; omega
  · cases h

/-! ### rational_Make: function 168 -/
-- by hand: cohousing/rational.Make
/-- The number n / d: its reduced form, or an error. -/
def ratMk (n d : Int) : Int × Int × Int :=
  if d = 0 then (0, 0, 7)
  else if 1000000000 < n.natAbs / Nat.gcd n.natAbs d.natAbs ∨ 1000000000 < d.natAbs / Nat.gcd n.natAbs d.natAbs then (0, 0, 3)
  else (if (decide (n < 0)) != (decide (d < 0)) then -((n.natAbs / Nat.gcd n.natAbs d.natAbs : Nat) : Int) else ((n.natAbs / Nat.gcd n.natAbs d.natAbs : Nat) : Int), ((d.natAbs / Nat.gcd n.natAbs d.natAbs : Nat) : Int), 0)
def rational_Make.f (a0 : Int) (a1 : Int) : Option (Int × Int × Int) := if inI64 a0 ∧ inI64 a1 then some (ratMk a0 a1) else none
theorem size_eq (n : Int) (h0 : -9223372036854775808 ≤ n) (h1 : n ≤ 9223372036854775807) : rational_size.f n = some (n.natAbs : Int) := by
  unfold rational_size.f
  simp only [IntKind.wrap_u64]
  split <;> (congr 1; omega)
theorem common_eq (a b g : Nat) (ha : a < 18446744073709551616) (hb : b < 18446744073709551616) (h : Nat.gcd a b = g) : rational_common.f a b = some (g : Int) := by
  unfold rational_common.f
  rw [if_pos (by omega), ← h]
  rfl
theorem reduced_zero (n : Int) (w : World) :
    Calls Tryz.prog 178 #[.int .i64 n, .int .i64 0] w fun e w' => e = .panicked [{ v := .iface 29 (.int .i64 7), recovered := false }] ∧ Below w.heap.size w w' := by
  go_enter Tryz.func178, Tryz.ntmps178
  go_wp2
  exact ⟨rfl, rfl, below_alloc (Below.refl _ _) _⟩

theorem u64_small (x : Nat) (h : x ≤ 9223372036854775808) : IntKind.u64.wrap (x : Int) = (x : Int) := by rw [IntKind.wrap_u64]; omega
/-- What 'reduced' asks of its callees, laid once. -/
structure RedFacts (n d : Int) (a b g x y : Nat) : Prop where
  a_ : a ≤ 9223372036854775808
  b_ : b ≤ 9223372036854775808
  b1 : 1 ≤ b
  g_ : 1 ≤ g
  na : n.natAbs = a
  nb : d.natAbs = b
  c_ : Nat.gcd a b = g
  x_ : a / g = x
  y_ : b / g = y
theorem RedFacts.of (n d : Int) (hn : inI64 n) (hd : inI64 d) (hz : d ≠ 0) : RedFacts n d n.natAbs d.natAbs (Nat.gcd n.natAbs d.natAbs) (n.natAbs / Nat.gcd n.natAbs d.natAbs) (d.natAbs / Nat.gcd n.natAbs d.natAbs) := by
  obtain ⟨h0, h1⟩ := hn
  obtain ⟨h2, h3⟩ := hd
  exact ⟨by omega, by omega, by omega, Nat.gcd_pos_of_pos_right _ (by omega), rfl, rfl, rfl, rfl, rfl⟩
set_option maxHeartbeats 2000000 in
theorem reduced_range (n d : Int) (w : World) (hn : inI64 n) (hd : inI64 d) (hz : d ≠ 0) (a b g x y : Nat) (F : RedFacts n d a b g x y) (h : 1000000000 < x ∨ 1000000000 < y) :
    Calls Tryz.prog 178 #[.int .i64 n, .int .i64 d] w fun e w' => e = .panicked [{ v := .iface 29 (.int .i64 3), recovered := false }] ∧ Below w.heap.size w w' := by
  have hdb : (d == 0) = false := by simpa using hz
  have hg1 : 1 ≤ g := F.g_
  have hg2 : ¬ (g : Int) = 0 := by omega
  have ha := F.a_
  have hb := F.b_
  have hxl : x ≤ 9223372036854775808 := F.x_ ▸ Nat.le_trans (Nat.div_le_self _ _) ha
  have hyl : y ≤ 9223372036854775808 := F.y_ ▸ Nat.le_trans (Nat.div_le_self _ _) hb
  have HC := Aside0.mk (common_eq a b g (by omega) (by omega) F.c_)
  have HS : Aside0 (rational_size.f n = some (a : Int)) := ⟨F.na ▸ size_eq n hn.1 hn.2⟩
  have HD : Aside0 (rational_size.f d = some (b : Int)) := ⟨F.nb ▸ size_eq d hd.1 hd.2⟩
  have hxb : (a : Int) / (g : Int) = x := by rw [← F.x_]; rfl
  have hyb : (b : Int) / (g : Int) = y := by rw [← F.y_]; rfl
  have hwx := u64_small x hxl
  have hwy := u64_small y hyl
  by_cases hc : 1000000000 < x
  all_goals
    have hc1 : decide (1000000000 < (x : Int)) = decide (1000000000 < x) := by congr 1; simp; omega
    first
    | (have hc2 : decide (1000000000 < (x : Int)) = true := by simp; omega)
    | (have hc2 : decide (1000000000 < (x : Int)) = false := by simp; omega
       have hc3 : decide (1000000000 < (y : Int)) = true := by simp; omega)
    clear F h hc hc1 hz
    go_enter Tryz.func178, Tryz.ntmps178
    go_wp2_with fail
    refine (rational_size.calls n _ _ HS.out).mono ?_
    rintro e w' ⟨rfl, ⟨nd, rfl⟩⟩
    go_wp2_with fail
    refine (rational_size.calls d _ _ HD.out).mono ?_
    rintro e w' ⟨rfl, ⟨nd2, rfl⟩⟩
    go_wp2_with fail
    refine (rational_common.calls a b _ _ HC.out).mono ?_
    rintro e w' ⟨rfl, ⟨nd3, rfl⟩⟩
    go_wp2_with fail
    go_region
    go_wp2
    exact ⟨rfl, rfl, by repeat (first | exact Below.refl _ _ | apply below_alloc | apply pw_below_drewN | apply below_drew)⟩
set_option maxHeartbeats 2000000 in
theorem reduced_ok (n d : Int) (w : World) (hn : inI64 n) (hd : inI64 d) (hz : d ≠ 0) (a b g x y : Nat) (F : RedFacts n d a b g x y) (hx : x ≤ 1000000000) (hy : y ≤ 1000000000) (r : Int)
    (hr : Aside0 (r = if (decide (n < 0)) != (decide (d < 0)) then -(x : Int) else x)) :
    Calls Tryz.prog 178 #[.int .i64 n, .int .i64 d] w fun e w' => e = .returned (.agg #[.int .i64 r, .int .i64 y]) ∧ Below w.heap.size w w' := by
  have hdb : (d == 0) = false := by simpa using hz
  have hg1 : 1 ≤ g := F.g_
  have hg2 : ¬ (g : Int) = 0 := by omega
  have ha := F.a_
  have hb := F.b_
  have HC := Aside0.mk (common_eq a b g (by omega) (by omega) F.c_)
  have HS : Aside0 (rational_size.f n = some (a : Int)) := ⟨F.na ▸ size_eq n hn.1 hn.2⟩
  have HD : Aside0 (rational_size.f d = some (b : Int)) := ⟨F.nb ▸ size_eq d hd.1 hd.2⟩
  have hxb : (a : Int) / (g : Int) = x := by rw [← F.x_]; rfl
  have hyb : (b : Int) / (g : Int) = y := by rw [← F.y_]; rfl
  have hwx := u64_small x (by omega)
  have hwy := u64_small y (by omega)
  have hc2 : decide (1000000000 < (x : Int)) = false := by simp; omega
  have hc3 : decide (1000000000 < (y : Int)) = false := by simp; omega
  clear F hz
  by_cases h1 : n < 0 <;> by_cases h2 : d < 0
  all_goals
    first | (have h1b : decide (n < 0) = true := by simpa using h1) | (have h1b : decide (n < 0) = false := by simpa using h1)
    first | (have h2b : decide (d < 0) = true := by simpa using h2) | (have h2b : decide (d < 0) = false := by simpa using h2)
    rw [h1b, h2b] at hr
    go_enter Tryz.func178, Tryz.ntmps178
    go_wp2_with fail
    refine (rational_size.calls n _ _ HS.out).mono ?_
    rintro e w' ⟨rfl, ⟨nd, rfl⟩⟩
    go_wp2_with fail
    refine (rational_size.calls d _ _ HD.out).mono ?_
    rintro e w' ⟨rfl, ⟨nd2, rfl⟩⟩
    go_wp2_with fail
    refine (rational_common.calls a b _ _ HC.out).mono ?_
    rintro e w' ⟨rfl, ⟨nd3, rfl⟩⟩
    go_wp2_with fail
    go_region
    go_wp2
    have hE := hr.out
    simp at hE
    subst hE
    refine bodyPost_ret (v := .agg #[.int .i64 _, .int .i64 (y : Int)]) (by simp [results, Tryz.results178, go_sem]) rfl ⟨rfl, ?_⟩
    repeat (first | exact Below.refl _ _ | apply below_alloc | apply pw_below_drewN | apply below_drew | refine Below.setCell ?_ (by simp) _)
set_option maxRecDepth 100000 in
theorem caught_panicking (g1 g2 : Nat) (x y z c : Int) (B : Nat) (hne : ¬ g1 = g2) (older : List PanicEntry) (w : World)
    (h0 : w.cell? ⟨g1, 0, none⟩ = some (.int .i64 x)) (h1 : w.cell? ⟨g1, 1, none⟩ = some (.int .i64 y)) (h2 : w.cell? ⟨g2, 0, none⟩ = some (.int .i64 z))
    (f0 : w.frozen? ⟨g1, 0, none⟩ = false) (f1 : w.frozen? ⟨g1, 1, none⟩ = false) (f2 : w.frozen? ⟨g2, 0, none⟩ = false) (hB1 : B ≤ g1) (hB2 : B ≤ g2) :
    CallsD Tryz.prog 177 #[.pointer (some ⟨g1, 0, none⟩), .pointer (some ⟨g2, 0, none⟩)] (.panicking ({ v := .iface 29 (.int .i64 c), recovered := false } :: older)) w fun e u' w' =>
      e = .returned (.tuple #[]) ∧ u' = .panicking ({ v := .iface 29 (.int .i64 c), recovered := true } :: older) ∧ Below B w w' ∧
      w'.cell? ⟨g1, 0, none⟩ = some (.int .i64 0) ∧ w'.cell? ⟨g1, 1, none⟩ = some (.int .i64 0) ∧ w'.cell? ⟨g2, 0, none⟩ = some (.int .i64 c) := by
  refine callsD_of_wpS Tryz.func177 rfl fun c₀ cs hu => ?_
  apply wpS_seq
  apply wpS_region
  simp [wpOpsS, go_sem, recoverD, hu, Tryz.ntmps177, Exit.thenS]
  apply wpS_seq
  apply wpS_region
  simp [wpOpsS, go_sem, recoverD, hu, Tryz.ntmps177, Exit.thenS]
  refine wpS_cond (t := true) (by simp [Act.eval, Array.replicate]) ?_
  simp only [if_true]
  refine wpS_of_wp ?_
  go_wp2
  have hta : ∀ (v : Value) (W : World), (Instr.typeAssert (.iface 29 v) 20 29 false).run Tryz.prog W = .ok v W := fun v W => by rfl
  change Code.wp Tryz.prog _ _ { tmps := #[.pointer (some ⟨g1, 0, none⟩), .pointer (some ⟨g2, 0, none⟩), undef, undef, .iface 29 (.int .i64 c), .iface 29 (.int .i64 c), .iface 29 (.int .i64 c), .bool true, undef, undef, undef, undef, undef, undef, undef], defers := [] } w
  have hu24 := Tryz.underlying96
  clear hu
  go_region
  change bodyPostS _ _ _ _ _ _ _ _ _
  refine ⟨rfl, _, rfl, .tuple #[], results_none rfl _ _ _, rfl, rfl, below_drew ((((Below.refl _ _).setCell hB1 _).setCell hB1 _).setCell hB2 _), ?_, ?_, ?_⟩
  · go_simp
  · go_simp
  · go_simp
theorem caught_idle (p q : Option Addr) (w : World) :
    CallsD Tryz.prog 177 #[.pointer p, .pointer q] .returning w fun e u' w' => e = .returned (.tuple #[]) ∧ u' = .returning ∧ w' = w := by
  refine callsD_of_wpS Tryz.func177 rfl fun c₀ cs hu => ?_
  apply wpS_seq
  apply wpS_region
  simp [wpOpsS, go_sem, recoverD, hu, Tryz.ntmps177, Exit.thenS]
  apply wpS_seq
  apply wpS_region
  simp [wpOpsS, go_sem, recoverD, hu, Tryz.ntmps177, Exit.thenS]
  refine wpS_cond (t := false) (by simp [Act.eval, Array.replicate]) ?_
  simp only [Bool.false_eq_true, if_false]
  refine wpS_of_wp (wp_skip ?_)
  cases c₀
  simp_all [bodyPostS, results, Tryz.results177]
set_option maxRecDepth 100000 in
theorem make_panics (n d c : Int) (w : World) (h : ∀ W, Calls Tryz.prog 178 #[.int .i64 n, .int .i64 d] W fun e w' => e = .panicked [{ v := .iface 29 (.int .i64 c), recovered := false }] ∧ Below W.heap.size W w') :
    Calls Tryz.prog 168 #[.int .i64 n, .int .i64 d] w fun e w' => e = .returned (.tuple #[.agg #[.int .i64 0, .int .i64 0], .int .i64 c]) ∧ Below w.heap.size w w' := by
  have H := Lib.hid h
  clear h
  go_enter_defers Tryz.func168, Tryz.ntmps168
  go_wp2_with fail
  refine (H.out _).mono ?_
  rintro e w1 ⟨rfl, hb⟩
  have hz := hb.size
  simp at hz
  have c0 : w1.cell? ⟨w.heap.size, 0, none⟩ = some (.int .i64 0) := (hb.cell (p := ⟨w.heap.size, 0, none⟩) (by simp; omega)).trans (by go_simp)
  have c1 : w1.cell? ⟨w.heap.size, 1, none⟩ = some (.int .i64 0) := (hb.cell (p := ⟨w.heap.size, 1, none⟩) (by simp; omega)).trans (by go_simp)
  have c2 : w1.cell? ⟨w.heap.size + 1, 0, none⟩ = some (.int .i64 0) := (hb.cell (p := ⟨w.heap.size + 1, 0, none⟩) (by simp)).trans (by go_simp)
  have f0 : w1.frozen? ⟨w.heap.size, 0, none⟩ = false := (hb.frozen (p := ⟨w.heap.size, 0, none⟩) (by simp; omega)).trans (by go_simp)
  have f1 : w1.frozen? ⟨w.heap.size, 1, none⟩ = false := (hb.frozen (p := ⟨w.heap.size, 1, none⟩) (by simp; omega)).trans (by go_simp)
  have f2 : w1.frozen? ⟨w.heap.size + 1, 0, none⟩ = false := (hb.frozen (p := ⟨w.heap.size + 1, 0, none⟩) (by simp)).trans (by go_simp)
  go_wp2
  refine leaves_cons (f := 177) (args := #[.pointer (some ⟨w.heap.size, 0, none⟩), .pointer (some ⟨w.heap.size + 1, 0, none⟩)]) (by simp) (by simp [go_sem]) ?_
  refine (caught_panicking w.heap.size (w.heap.size + 1) 0 0 0 c w.heap.size (by omega) [] _ c0 c1 c2 f0 f1 f2 (by omega) (by omega)).mono ?_
  rintro e u' w2 ⟨rfl, rfl, hb2, d0, d1, d2⟩
  simp [Leaves, settle, results, Tryz.results168, go_sem, d0, d1, d2]
  exact ((((Below.refl _ _).alloc (Nat.le_refl _) _).alloc (by simp) _).trans (hb.mono (by simp; omega))).trans hb2
set_option maxRecDepth 100000 in
theorem make_returns (n d x y : Int) (w : World) (h : ∀ W, Calls Tryz.prog 178 #[.int .i64 n, .int .i64 d] W fun e w' => e = .returned (.agg #[.int .i64 x, .int .i64 y]) ∧ Below W.heap.size W w') :
    Calls Tryz.prog 168 #[.int .i64 n, .int .i64 d] w fun e w' => e = .returned (.tuple #[.agg #[.int .i64 x, .int .i64 y], .int .i64 0]) ∧ Below w.heap.size w w' := by
  have H := Lib.hid h
  clear h
  have hu24 := Tryz.underlying96
  go_enter_defers Tryz.func168, Tryz.ntmps168
  go_wp2_with fail
  refine (H.out _).mono ?_
  rintro e w1 ⟨rfl, hb⟩
  have hz := hb.size
  simp at hz
  have c0 : w1.cell? ⟨w.heap.size, 0, none⟩ = some (.int .i64 0) := (hb.cell (p := ⟨w.heap.size, 0, none⟩) (by simp; omega)).trans (by go_simp)
  have c1 : w1.cell? ⟨w.heap.size, 1, none⟩ = some (.int .i64 0) := (hb.cell (p := ⟨w.heap.size, 1, none⟩) (by simp; omega)).trans (by go_simp)
  have c2 : w1.cell? ⟨w.heap.size + 1, 0, none⟩ = some (.int .i64 0) := (hb.cell (p := ⟨w.heap.size + 1, 0, none⟩) (by simp)).trans (by go_simp)
  have f0 : w1.frozen? ⟨w.heap.size, 0, none⟩ = false := (hb.frozen (p := ⟨w.heap.size, 0, none⟩) (by simp; omega)).trans (by go_simp)
  have f1 : w1.frozen? ⟨w.heap.size, 1, none⟩ = false := (hb.frozen (p := ⟨w.heap.size, 1, none⟩) (by simp; omega)).trans (by go_simp)
  have f2 : w1.frozen? ⟨w.heap.size + 1, 0, none⟩ = false := (hb.frozen (p := ⟨w.heap.size + 1, 0, none⟩) (by simp)).trans (by go_simp)
  go_wp2
  refine leaves_cons (f := 177) (args := #[.pointer (some ⟨w.heap.size, 0, none⟩), .pointer (some ⟨w.heap.size + 1, 0, none⟩)]) (by simp) (by simp [go_sem]) ?_
  refine (caught_idle _ _ _).mono ?_
  rintro e u' w2 ⟨rfl, rfl, rfl⟩
  simp [Leaves, settle, results, Tryz.results168, go_sem, c0, c1, c2, f0, f1, f2]
  exact (((((Below.refl _ _).alloc (Nat.le_refl _) _).alloc (by simp) _).trans (hb.mono (by simp; omega))).setCell (by simp) _).setCell (by simp) _ |>.setCell (by simp) _
theorem rational_Make.calls (a0 : Int) (a1 : Int) (r1 r2 r3 : Int) (w : World) (h : rational_Make.f a0 a1 = some (r1, r2, r3)) :
    Calls Tryz.prog 168 #[.int .i64 a0, .int .i64 a1] w fun e w' => e = .returned (.tuple #[.agg #[.int .i64 r1, .int .i64 r2], .int .i64 r3]) ∧ Below w.heap.size w w' := by
  unfold rational_Make.f at h
  split at h
  · rename_i hr
    obtain ⟨hn, hd⟩ := hr
    replace h := Option.some.inj h
    unfold ratMk at h
    split at h
    · rename_i hz
      subst hz
      cases h
      exact make_panics _ _ _ _ (fun W => reduced_zero _ _)
    · rename_i hz
      have F := RedFacts.of a0 a1 hn hd hz
      split at h
      · rename_i hc
        cases h
        exact make_panics _ _ _ _ (fun W => reduced_range _ _ _ hn hd hz _ _ _ _ _ F hc)
      · rename_i hc
        simp only [Prod.mk.injEq] at h
        obtain ⟨h1, rfl, rfl⟩ := h
        exact make_returns _ _ _ _ _ (fun W => reduced_ok _ _ _ hn hd hz _ _ _ _ _ F (by omega) (by omega) _ ⟨h1.symm⟩)
  · cases h

end Go.Proofs.YthcjocojngochaaGreatDoor.X
