-- Written by a program of mine (wip/tools/xprint.py) over the kit's print.py: printed functions and hand-proved ones side by side.
import Derived.Test.YthcjocojngochaaGreatDoorXx0
import Derived.Test.YthcjocojngochaaGreatDoorXx4
namespace Go.Proofs.YthcjocojngochaaGreatDoor.X
open Go.RowKit Go.Proofs.YthcjocojngochaaGreatDoorW.PrintWords Go.Proofs.YthcjocojngochaaGreatDoorW.PrintLast Go.Proofs.YthcjocojngochaaGreatDoorW.PrintMore
attribute [local go_sem] max2_int min2_int max_two min_two max_three min_three max_four min_four   -- for this text's walks alone
set_option linter.unusedVariables false
set_option linter.unusedSimpArgs false

/-! ### lexer_scanner_skip: function 124 -/
-- by hand: (*cohousing/lexer.scanner).skip
section
attribute [local go_sem ↓] Go.wp_at_zero Go.wp_at_succ
/-- What a scanner is: the source, the offset, the tokens. -/
def ScB (s : ByteArray) (i : Int) (v : Value) : Obj := .cells #[.string s, .int .i64 i, v] 142 (0, 0)
structure Sc (w : World) (g : Nat) (s : ByteArray) (i : Int) (v : Value) : Prop where
  blk : w.heap[g]? = some (ScB s i v)
theorem Sc.cells {w : World} {g : Nat} {s : ByteArray} {i : Int} {v : Value} (h : Sc w g s i v) :
    w.cell? ⟨g, 0, none⟩ = some (.string s) ∧ w.cell? ⟨g, 1, none⟩ = some (.int .i64 i) ∧ w.cell? ⟨g, 2, none⟩ = some v ∧
    w.frozen? ⟨g, 0, none⟩ = false ∧ w.frozen? ⟨g, 1, none⟩ = false ∧ w.frozen? ⟨g, 2, none⟩ = false := by
  have hb := h.blk
  unfold ScB at hb
  refine ⟨?_, ?_, ?_, ?_, ?_, ?_⟩ <;> simp [World.cell?, World.frozen?, hb]
theorem Sc.at_ {w : World} {g : Nat} {s : ByteArray} {i : Int} {v : Value} (h : Sc w g s i v) (j : Int) : Sc (w.setCell ⟨g, 1, none⟩ (.int .i64 j)) g s j v := by
  have hb := h.blk
  unfold ScB at hb
  constructor
  unfold ScB
  simp only [World.setCell]
  obtain ⟨hlt, e⟩ := Array.getElem?_eq_some_iff.mp hb
  rw [Array.getElem?_modify]
  simp [hlt, e]
theorem Sc.at_eq {w : World} {g : Nat} {s : ByteArray} {i j k : Int} {v : Value} (h : Sc w g s i v) (e : j = k) : Sc (w.setCell ⟨g, 1, none⟩ (.int .i64 j)) g s k v := e ▸ h.at_ j
theorem Sc.out_ {w : World} {g : Nat} {s : ByteArray} {i : Int} {v : Value} (h : Sc w g s i v) (u : Value) : Sc (w.setCell ⟨g, 2, none⟩ u) g s i u := by
  have hb := h.blk
  unfold ScB at hb
  constructor
  unfold ScB
  simp only [World.setCell]
  obtain ⟨hlt, e⟩ := Array.getElem?_eq_some_iff.mp hb
  rw [Array.getElem?_modify]
  simp [hlt, e]
theorem Sc.drewN {w : World} {g : Nat} {s : ByteArray} {i : Int} {v : Value} (h : Sc w g s i v) (n : Nat) : Sc (w.drewN n) g s i v := ⟨h.blk⟩
theorem Sc.drew {w : World} {g : Nat} {s : ByteArray} {i : Int} {v : Value} (h : Sc w g s i v) : Sc w.drew g s i v := ⟨h.blk⟩
theorem Sc.lt {w : World} {g : Nat} {s : ByteArray} {i : Int} {v : Value} (h : Sc w g s i v) : g < w.heap.size := (Array.getElem?_eq_some_iff.mp h.blk).1
theorem Sc.keep {w w' : World} {g : Nat} {s : ByteArray} {i : Int} {v : Value} (h : Sc w g s i v) (hk : w'.heap[g]? = w.heap[g]?) : Sc w' g s i v := ⟨hk.trans h.blk⟩
/-- Only the scanner's own block was written to. -/
structure Only (g : Nat) (w w' : World) : Prop where
  below : Below g w w'
  keep : KeepBut w w' g none
theorem Only.refl (g : Nat) (w : World) : Only g w w := ⟨Below.refl _ _, KeepBut.refl _ _ _⟩
theorem Only.trans {g : Nat} {a b c : World} (h : Only g a b) (k : Only g b c) : Only g a c := ⟨h.below.trans k.below, h.keep.trans k.keep (.inl rfl)⟩
theorem Only.drewN {g : Nat} {a b : World} (h : Only g a b) (n : Nat) : Only g a (b.drewN n) := ⟨pw_below_drewN h.below n, ⟨h.keep.1, h.keep.2⟩⟩
theorem Only.set {g : Nat} {a b : World} (h : Only g a b) (j : Nat) (u : Value) : Only g a (b.setCell ⟨g, j, none⟩ u) := ⟨h.below.setCell (Nat.le_refl _) u, h.keep.set_ j u⟩
/-! ### The gaps -/
def isBlank (b : UInt8) : Bool := b == 32 || b == 9 || b == 10 || b == 13
/-- How many bytes of a gap a list begins with (c: within a comment). -/
def skipN : Bool → List UInt8 → Nat
  | _, [] => 0
  | c, b :: r => if (if b == 10 then false else if b == 35 then true else c) || isBlank b then 1 + skipN (if b == 10 then false else if b == 35 then true else c) r else 0
def skipTo (s : ByteArray) (i : Nat) : Nat := i + skipN false (s.data.toList.drop i)
theorem drop_cons (s : ByteArray) (i : Nat) (h : i < s.size) : s.data.toList.drop i = s[i] :: s.data.toList.drop (i + 1) := by
  rw [List.drop_eq_getElem_cons (by simpa using h)]
  rfl
theorem skipTo_end (s : ByteArray) (i : Nat) (h : s.size ≤ i) : skipTo s i = i := by
  unfold skipTo
  rw [List.drop_of_length_le (by simpa using h)]
  rfl
theorem skipTo_blank (s : ByteArray) (i : Nat) (h : i < s.size) (hb : isBlank s[i] = true) : skipTo s (i + 1) = skipTo s i := by
  unfold skipTo
  rw [drop_cons s i h, skipN, if_pos (by rw [hb, Bool.or_true])]
  have e : (if s[i] == 10 then false else if s[i] == 35 then true else false) = false := by
    by_cases h1 : s[i] = 10
    · simp [h1]
    · by_cases h2 : s[i] = 35
      · rw [h2] at hb
        exact absurd hb (by decide)
      · simp [h1, h2]
  rw [e]
  omega
theorem skipTo_stop (s : ByteArray) (i : Nat) (h : i < s.size) (hb : isBlank s[i] = false) (hc : s[i] ≠ 35) : skipTo s i = i := by
  unfold skipTo
  rw [drop_cons s i h, skipN, if_neg]
  · rfl
  · rw [hb, Bool.or_false]
    have h1 : s[i] ≠ 10 := by
      intro e
      rw [e] at hb
      exact absurd hb (by decide)
    simp [h1, hc]
/-- Where a comment ends. -/
theorem skipN_comment : ∀ (l : List UInt8), skipN true l = if Lib.indexByte l 10 < 0 then l.length else (Lib.indexByte l 10).toNat + skipN false (l.drop (Lib.indexByte l 10).toNat)
  | [] => by simp [skipN, Lib.indexByte]
  | b :: r => by
    have ih := skipN_comment r
    have hge := Lib.indexByte_ge r 10
    rw [skipN, Lib.indexByte]
    by_cases h : b = 10
    · subst h
      simp [skipN, isBlank]
    · have e : (if (b == 10) = true then false else if (b == 35) = true then true else true) = true := by simp [h]
      rw [e, Bool.true_or, if_pos rfl, ih]
      have e2 : (b == 10) = false := by simp [h]
      rw [e2]
      by_cases h2 : Lib.indexByte r 10 < 0
      · have h3 : Lib.indexByte r 10 = -1 := by omega
        rw [h3]
        simp
        omega
      · obtain ⟨m, hm⟩ : ∃ m : Nat, Lib.indexByte r 10 = m := ⟨(Lib.indexByte r 10).toNat, by omega⟩
        have h4 : ((m : Int) == -1) = false := by
          rw [beq_eq_false_iff_ne]
          omega
        rw [hm, h4, if_neg (by omega)]
        simp only [Bool.false_eq_true, if_false]
        rw [if_neg (by omega), show ((m : Int) + 1).toNat = m + 1 by omega, Int.toNat_natCast, List.drop_succ_cons]
        omega
/-- A call that leaves the world alone, in a quiet region behind a quiet region. -/
theorem quiet_here {P : Program} {f : FuncId} {args : Array Value} {w : World} {a n : Nat} {v : Value} (c : ∀ W, Calls P f args W fun e w' => e = .returned v ∧ w' = W) :
    Calls P f args (w.drewN (a + n)) fun e w' => e = .returned v ∧ ∃ m, w' = w.drewN (a + m) := by
  refine (c _).mono ?_
  rintro e w' ⟨he, hw⟩
  exact ⟨he, n, hw⟩
theorem extract_drop (s : ByteArray) (j : Nat) : (s.extract j s.size).data.toList = s.data.toList.drop j := by
  rw [ByteArray.data_extract, Array.toList_extract]
  simp [List.extract, List.take_of_length_le]
theorem indexByte_pos (s : ByteArray) (j : Nat) (h : j < s.size) (hc : s[j] ≠ 10) : Lib.indexByte (s.data.toList.drop j) 10 = -1 ∨ 1 ≤ Lib.indexByte (s.data.toList.drop j) 10 := by
  rw [drop_cons s j h, Lib.indexByte]
  have e : (s[j] == 10) = false := by simpa using hc
  have hge := Lib.indexByte_ge (s.data.toList.drop (j + 1)) 10
  rw [e]
  simp only [Bool.false_eq_true, if_false]
  split
  · exact .inl rfl
  · rename_i h2
    rw [beq_iff_eq] at h2
    exact .inr (by omega)
/-- At a comment. -/
theorem skipN_hash (s : ByteArray) (j : Nat) (h : j < s.size) (hc : s[j] = 35) :
    skipTo s j = if Lib.indexByte (s.data.toList.drop j) 10 < 0 then s.size else skipTo s (j + (Lib.indexByte (s.data.toList.drop j) 10).toNat) := by
  have e : skipN false (s.data.toList.drop j) = skipN true (s.data.toList.drop j) := by
    rw [drop_cons s j h, skipN, skipN, hc]
    simp
  unfold skipTo
  rw [e, skipN_comment]
  split
  · simp
    omega
  · rw [List.drop_drop]
    omega
set_option maxRecDepth 100000 in
set_option maxHeartbeats 4000000 in
theorem skip_ok (g : Nat) (s : ByteArray) (i : Nat) (v : Value) (w : World) (hS : Sc w g s i v) (hi : i ≤ s.size) (hs : s.size ≤ 8000) :
    Calls Tryz.prog 124 #[.pointer (some ⟨g, 0, none⟩)] w fun e w' => e = .returned (.tuple #[]) ∧ Sc w' g s (skipTo s i : Nat) v ∧ Only g w w' := by
  have hu49 := Tryz.underlying142
  have HS0 := Aside0.mk hS
  clear hS
  go_enter Tryz.func124, Tryz.ntmps124
  go_wp2_with fail
  go_loopg [2] (s.size - i) (fun k v2 wr => ∃ j : Nat, k = s.size - j ∧ j ≤ s.size ∧ Aside0 (skipTo s j = skipTo s i) ∧ Aside0 (Sc wr g s j v) ∧ Aside0 (Only g w wr))
  case atStart => exact ⟨i, rfl, hi, ⟨rfl⟩, HS0, ⟨Only.refl _ _⟩⟩
  case round =>
    obtain ⟨j, rfl, hj, HE, HS, HO⟩ := hrel
    obtain ⟨c0, c1, c2, f0, f1, f2⟩ := HS.out.cells
    by_cases hlt : j < s.size
    · have hltz : (j : Int) < (s.size : Int) := by omega
      have hltd : decide ((j : Int) < (s.size : Int)) = true := decide_eq_true hltz
      have hj0 : (0 : Int) ≤ (j : Int) := by omega
      by_cases hb : isBlank s[j] = true
      · have HN := Aside0.mk ((skipTo_blank s j hlt hb).trans HE.out)
        have hbz : s[j].toNat = 32 ∨ s[j].toNat = 9 ∨ s[j].toNat = 10 ∨ s[j].toNat = 13 := by
          simp only [isBlank, Bool.or_eq_true, beq_iff_eq] at hb
          rcases hb with ((h | h) | h) | h <;> rw [h] <;> simp
        clear hb HE
        go_wp2_with fail
        go_quiet (fail)
        go_wp2_with fail
        go_quiet (fail)
        go_wp2_with fail
        all_goals
          (try simp only [Exit.inBlock, Exit.then])
          go_roundg (s.size - (j + 1))
          case measure => omega
          case rel => exact ⟨j + 1, rfl, by omega, HN, ⟨by show Sc _ g s ((j : Int) + 1) v; repeat (first | exact HS.out | apply Sc.drewN | apply Sc.drew | refine Sc.at_ (i := (j : Int)) ?_ _)⟩, ⟨by repeat (first | exact HO.out | apply Only.drewN | apply Only.set)⟩⟩
      · have hb := (Bool.not_eq_true _).mp hb
        by_cases hc : s[j] = 35
        · have hcz : s[j].toNat = 35 := by rw [hc]; rfl
          have hsub : (s.extract j s.size).data.toList = s.data.toList.drop j := extract_drop s j
          have hN := skipN_hash s j hlt hc
          have hge := Lib.indexByte_ge (s.data.toList.drop j) 10
          have hlt2 := indexByte_lt (s.data.toList.drop j) 10
          have hI : ∀ W, Calls Tryz.prog 151 #[.string (s.extract j s.size), .int .u8 10] W fun e w' => e = .returned (.int .i64 (Lib.indexByte (s.data.toList.drop j) 10)) ∧ w' = W := fun W => by
            have h := Tryz.strings_IndexByte (s.extract j s.size) 10 W
            rw [hsub] at h
            exact h
          have hpos := indexByte_pos s j hlt (by rw [hc]; decide)
          have hlen : (s.data.toList.drop j).length = s.size - j := by simp
          rw [hlen] at hlt2
          generalize Lib.indexByte (s.data.toList.drop j) 10 = m at *
          clear hsub hlen hb hc
          have hjs : (j : Int) ≤ (s.size : Int) := by omega
          by_cases hm : m < 0
          · have hm1 : m = -1 := by omega
            subst hm1
            have HN := Aside0.mk (hN.symm.trans HE.out)
            rw [if_pos (by omega)] at HN
            have HI := Lib.hid hI
            clear hI hN hge hlt2 hpos HE hm
            go_wp2_with fail
            go_quiet (fail)
            go_wp2_with fail
            go_quiet (fail)
            go_wp2_with fail
            go_quiet ((go_at_call 151; exact quiet_here HI.out))
            go_wp2_with fail
            go_quiet (fail)
            go_wp2_with fail
            all_goals
              (try simp only [Exit.inBlock, Exit.then])
              go_roundg (s.size - (s.size))
              case measure => omega
              case rel => exact ⟨s.size, rfl, by omega, ⟨(skipTo_end s s.size (Nat.le_refl _)).trans HN.out⟩, ⟨by repeat (first | exact HS.out | apply Sc.drewN | apply Sc.drew | refine Sc.at_eq (i := (j : Int)) ?_ (by omega))⟩, ⟨by repeat (first | exact HO.out | apply Only.drewN | apply Only.set)⟩⟩
          · obtain ⟨mn, rfl⟩ : ∃ mn : Nat, m = mn := ⟨m.toNat, by omega⟩
            rw [if_neg hm, Int.toNat_natCast] at hN
            have HN := Aside0.mk (hN.symm.trans HE.out)
            have hb1 : 1 ≤ mn ∧ mn < s.size - j := by omega
            have HI := Lib.hid hI
            clear hI hN hge hlt2 hpos HE hm
            have hmz : decide ((mn : Int) < 0) = false := decide_eq_false (by omega)
            have hmj : j + mn ≤ 8000 := by omega
            go_wp2_with fail
            go_quiet (fail)
            go_wp2_with fail
            go_quiet (fail)
            go_wp2_with fail
            go_quiet ((go_at_call 151; exact quiet_here HI.out))
            go_wp2_with fail
            all_goals
              (try simp only [Exit.inBlock, Exit.then])
              go_roundg (s.size - (j + mn))
              case measure => omega
              case rel => exact ⟨j + mn, rfl, by omega, HN, ⟨by repeat (first | exact HS.out | apply Sc.drewN | apply Sc.drew | refine Sc.at_eq (i := (j : Int)) ?_ (by omega))⟩, ⟨by repeat (first | exact HO.out | apply Only.drewN | apply Only.set)⟩⟩
        · have HN := Aside0.mk (skipTo_stop s j hlt hb hc)
          have hbz : s[j].toNat ≠ 32 ∧ s[j].toNat ≠ 9 ∧ s[j].toNat ≠ 10 ∧ s[j].toNat ≠ 13 ∧ s[j].toNat ≠ 35 := by
            simp only [isBlank, Bool.or_eq_false_iff, beq_eq_false_iff_ne] at hb
            have key : ∀ (x : UInt8) (k : Nat), k < 256 → x ≠ UInt8.ofNat k → x.toNat ≠ k := by
              intro x k hk h e
              apply h
              rw [← e]
              simp
            exact ⟨key _ 32 (by omega) hb.1.1.1, key _ 9 (by omega) hb.1.1.2, key _ 10 (by omega) hb.1.2, key _ 13 (by omega) hb.2, key _ 35 (by omega) hc⟩
          have hE : skipTo s i = j := HE.out.symm.trans HN.out
          have HE2 := Aside0.mk hE
          clear hb hc hE HE HN
          go_wp2_with fail
          go_quiet (fail)
          go_wp2_with fail
          go_quiet (fail)
          go_wp2_with fail
          (try simp only [Exit.inBlock, Exit.then])
          refine bodyPost_ret (results_none rfl _ _ _) rfl ⟨rfl, ?_, ?_⟩
          · rw [HE2.out]
            repeat (first | exact HS.out | apply Sc.drewN | apply Sc.drew)
          · repeat (first | exact HO.out | apply Only.drewN | apply Only.set)
    · have hE : skipTo s i = j := HE.out.symm.trans (skipTo_end s j (by omega))
      have HE2 := Aside0.mk hE
      have hltd : decide ((j : Int) < (s.size : Int)) = false := decide_eq_false (by omega)
      clear hE HE
      go_wp2_with fail
      go_quiet (fail)
      go_wp2_with fail
      go_end0
      refine ⟨rfl, ?_, ?_⟩
      · rw [HE2.out]
        repeat (first | exact HS.out | apply Sc.drewN | apply Sc.drew)
      · repeat (first | exact HO.out | apply Only.drewN | apply Only.set)
end

/-! ### lexer_scanner_sign: function 155 -/
-- by hand: (*cohousing/lexer.scanner).sign
section
attribute [local go_sem ↓] Go.wp_at_zero Go.wp_at_succ
/-! ### The signs -/
def oneB (c : UInt8) : Bool := c == 123 || c == 125 || c == 40 || c == 41 || c == 59 || c == 44 || c == 58 || c == 43 || c == 45 || c == 42 || c == 47 || c == 61
/-- The length of the sign that a list begins with, or 0. -/
def signN : List UInt8 → Nat
  | [] => 0
  | c :: r => if c == 33 || c == 60 || c == 62 then (if r.head? == some 61 then 2 else if c == 33 then 0 else 1) else if oneB c then 1 else 0
theorem quiet_there {P : Program} {f : FuncId} {args : Array Value} {w : World} {a n : Nat} {v : Value} (c : ∀ W, Calls P f args W fun e w' => e = .returned v ∧ Drawn0 W w') :
    Calls P f args (w.drewN (a + n)) fun e w' => e = .returned v ∧ ∃ m, w' = w.drewN (a + m) := by
  refine (c _).mono ?_
  rintro e w' ⟨he, m, hw⟩
  exact ⟨he, n + m, by rw [hw, World.drewN_drewN, Nat.add_assoc]⟩
theorem quiet_first {P : Program} {f : FuncId} {args : Array Value} {w : World} {n : Nat} {v : Value} (c : ∀ W, Calls P f args W fun e w' => e = .returned v ∧ Drawn0 W w') :
    Calls P f args (w.drewN n) fun e w' => e = .returned v ∧ ∃ m, w' = w.drewN m := by
  refine (c _).mono ?_
  rintro e w' ⟨he, m, hw⟩
  exact ⟨he, n + m, by rw [hw, World.drewN_drewN]⟩
theorem toNat_ne {x : UInt8} {k : Nat} (hk : k < 256) (h : x ≠ UInt8.ofNat k) : x.toNat ≠ k := by
  intro e
  apply h
  rw [← e]
  simp
theorem has_eq (t : ByteArray) : ∀ W, Calls Tryz.prog 165 #[.string t, .string ⟨#[61]⟩] W fun e w' => e = .returned (.bool (t.data.toList.head? == some 61)) ∧ Drawn0 W w' := by
  intro W
  refine (strings_HasPrefix.calls t ⟨#[61]⟩ _ W ?_)
  unfold strings_HasPrefix.f stringslite_HasPrefix.f
  have h1 : (ByteArray.mk #[61]).size = 1 := rfl
  rw [h1]
  cases t with
  | mk d =>
    cases d with
    | mk l =>
      cases l with
      | nil => rfl
      | cons c r =>
        have e : ((ByteArray.mk (Array.mk (c :: r))).size : Int) = (r.length : Int) + 1 := by
          show (((c :: r).length : Nat) : Int) = _
          rw [List.length_cons]
          omega
        rw [e, if_pos (by omega), if_pos (by omega), if_pos (by omega)]
        have e2 : ((ByteArray.mk (Array.mk (c :: r))).extract 0 ((1 : Nat) : Int).toNat).toList = [c] := by
          rw [show ((1 : Nat) : Int).toNat = 1 from rfl]
          have : ((ByteArray.mk (Array.mk (c :: r))).extract 0 1).data.toList = [c] := by
            rw [ByteArray.data_extract, Array.toList_extract]
            simp [List.extract]
          rw [← this]
          exact ba_toList _
        have e3 : (ByteArray.mk #[61]).toList = [61] := ba_toList _
        rw [e2, e3]
        simp
set_option maxRecDepth 100000 in
set_option maxHeartbeats 4000000 in
theorem sign_ok (g : Nat) (s : ByteArray) (i : Nat) (v : Value) (w : World) (hS : Sc w g s i v) (hi : i < s.size) (hs : s.size ≤ 8000) :
    Calls Tryz.prog 155 #[.pointer (some ⟨g, 0, none⟩)] w fun e w' => e = .returned (.int .i64 (signN (s.data.toList.drop i) : Nat)) ∧ Drawn0 w w' := by
  have hu49 := Tryz.underlying142
  obtain ⟨c0, c1, c2, f0, f1, f2⟩ := hS.cells
  have hltz : (i : Int) < (s.size : Int) := by omega
  have hj0 : (0 : Int) ≤ (i : Int) := by omega
  have hj1 : (0 : Int) ≤ (i : Int) + 1 := by omega
  have hj2 : (i : Int) + 1 ≤ (s.size : Int) := by omega
  have hd := drop_cons s i hi
  have hI : ∀ W, Calls Tryz.prog 165 #[.string (s.extract (i + 1) s.size), .string ⟨#[61]⟩] W fun e w' => e = .returned (.bool ((s.data.toList.drop (i + 1)).head? == some 61)) ∧ Drawn0 W w' := by
    intro W
    have h := has_eq (s.extract (i + 1) s.size) W
    rw [extract_drop] at h
    exact h
  rw [hd, signN]
  generalize hr : ((s.data.toList.drop (i + 1)).head? == some 61) = q at *
  clear hd hS
  have HI := Lib.hid hI
  clear hI hr
  by_cases h3 : s[i] = 33 ∨ s[i] = 60 ∨ s[i] = 62
  · have hz : s[i].toNat = 33 ∨ s[i].toNat = 60 ∨ s[i].toNat = 62 := by rcases h3 with h | h | h <;> rw [h] <;> simp
    rw [if_pos (by rcases h3 with h | h | h <;> rw [h] <;> simp)]
    cases q with
    | true =>
      rw [if_pos rfl]
      clear h3
      go_enter Tryz.func155, Tryz.ntmps155
      go_wp2_with fail
      go_quiet (fail)
      go_wp2_with fail
      all_goals
        go_quiet ((go_at_call 165; exact quiet_there HI.out))
        go_wp2_with fail
        go_ret
        exact ⟨rfl, by repeat (first | exact Drawn0.refl _ | apply Drawn0.step)⟩
    | false =>
      rw [if_neg (by decide)]
      by_cases h33 : s[i] = 33
      · have h4 : s[i].toNat = 33 := by rw [h33]; rfl
        rw [if_pos (by rw [h33]; rfl)]
        clear hz h3 h33
        go_enter Tryz.func155, Tryz.ntmps155
        go_wp2_with fail
        go_quiet (fail)
        go_wp2_with fail
        go_quiet ((go_at_call 165; exact quiet_there HI.out))
        go_wp2_with fail
        go_ret
        exact ⟨rfl, by repeat (first | exact Drawn0.refl _ | apply Drawn0.step)⟩
      · rw [if_neg (by simpa using h33)]
        have hz : s[i].toNat = 60 ∨ s[i].toNat = 62 := by rcases h3 with h | h | h; exact absurd h h33; exact .inl (by rw [h]; rfl); exact .inr (by rw [h]; rfl)
        clear h3 h33
        go_enter Tryz.func155, Tryz.ntmps155
        go_wp2_with fail
        go_quiet (fail)
        go_wp2_with fail
        all_goals
          go_quiet ((go_at_call 165; exact quiet_there HI.out))
          go_wp2_with fail
          go_ret
          exact ⟨rfl, by repeat (first | exact Drawn0.refl _ | apply Drawn0.step)⟩
  · rw [if_neg (by simpa [not_or, and_assoc] using h3)]
    have h3' : s[i].toNat ≠ 33 ∧ s[i].toNat ≠ 60 ∧ s[i].toNat ≠ 62 := by
      simp only [not_or] at h3
      exact ⟨toNat_ne (by omega) h3.1, toNat_ne (by omega) h3.2.1, toNat_ne (by omega) h3.2.2⟩
    by_cases h5 : oneB s[i] = true
    · rw [if_pos h5]
      have hz : s[i].toNat = 123 ∨ s[i].toNat = 125 ∨ s[i].toNat = 40 ∨ s[i].toNat = 41 ∨ s[i].toNat = 59 ∨ s[i].toNat = 44 ∨ s[i].toNat = 58 ∨ s[i].toNat = 43 ∨ s[i].toNat = 45 ∨ s[i].toNat = 42 ∨ s[i].toNat = 47 ∨ s[i].toNat = 61 := by
        simp only [oneB, Bool.or_eq_true, beq_iff_eq] at h5
        rcases h5 with ((((((((((h | h) | h) | h) | h) | h) | h) | h) | h) | h) | h) | h <;> rw [h] <;> simp
      clear h3 h5
      go_enter Tryz.func155, Tryz.ntmps155
      go_wp2_with fail
      go_quiet (fail)
      go_wp2_with fail
      all_goals
        go_ret
        exact ⟨rfl, by repeat (first | exact Drawn0.refl _ | apply Drawn0.step)⟩
    · rw [if_neg h5]
      have hz : s[i].toNat ≠ 123 ∧ s[i].toNat ≠ 125 ∧ s[i].toNat ≠ 40 ∧ s[i].toNat ≠ 41 ∧ s[i].toNat ≠ 59 ∧ s[i].toNat ≠ 44 ∧ s[i].toNat ≠ 58 ∧ s[i].toNat ≠ 43 ∧ s[i].toNat ≠ 45 ∧ s[i].toNat ≠ 42 ∧ s[i].toNat ≠ 47 ∧ s[i].toNat ≠ 61 := by
        simp only [oneB, Bool.or_eq_true, beq_iff_eq, not_or] at h5
        obtain ⟨⟨⟨⟨⟨⟨⟨⟨⟨⟨⟨a, b⟩, c⟩, d⟩, e⟩, f⟩, g⟩, h⟩, i⟩, j⟩, k⟩, l⟩ := h5
        exact ⟨toNat_ne (by omega) a, toNat_ne (by omega) b, toNat_ne (by omega) c, toNat_ne (by omega) d, toNat_ne (by omega) e, toNat_ne (by omega) f, toNat_ne (by omega) g, toNat_ne (by omega) h, toNat_ne (by omega) i, toNat_ne (by omega) j, toNat_ne (by omega) k, toNat_ne (by omega) l⟩
      clear h3 h5
      go_enter Tryz.func155, Tryz.ntmps155
      go_wp2_with fail
      go_quiet (fail)
      go_wp2_with fail
      go_ret
      exact ⟨rfl, by repeat (first | exact Drawn0.refl _ | apply Drawn0.step)⟩
end

/-! ### lexer_value: function 157 -/
-- by hand: cohousing/lexer.value
section
attribute [local go_sem ↓] Go.wp_at_zero Go.wp_at_succ
theorem fail_ok (p : Option Addr) (e at_ : Int) (w : World) :
    Calls Tryz.prog 152 #[.pointer p, .int .i64 e, .int .i64 at_] w fun x w' => x = .panicked [{ v := .iface 139 (.agg #[.int .i64 e, .int .i64 at_]), recovered := false }] ∧ w' = w := by
  go_enter Tryz.func152, Tryz.ntmps152
  go_wp2
  exact ⟨rfl, rfl, rfl⟩
/-! ### Bytes -/
def isDigit (b : UInt8) : Bool := decide (48 ≤ b.toNat) && decide (b.toNat ≤ 57)
def isLetter (b : UInt8) : Bool := decide (97 ≤ b.toNat) && decide (b.toNat ≤ 122)
/-- A byte that can be part of a word, or of a number. -/
def partB (num : Bool) (b : UInt8) : Bool := isLetter b || isDigit b || b == 95 || (num && b == 46)
theorem digit_ok (b : UInt8) : ∀ W, Calls Tryz.prog 153 #[.int .u8 b.toNat] W fun e w' => e = .returned (.bool (isDigit b)) ∧ Drawn0 W w' := fun W => by
  refine lexer_digit.calls _ _ W ?_
  unfold lexer_digit.f isDigit
  by_cases h : (48 : Int) ≤ (b.toNat : Int)
  · rw [if_pos h]
    have h2 : 48 ≤ b.toNat := by omega
    simp [h2]
    omega
  · rw [if_neg h]
    have h2 : ¬ 48 ≤ b.toNat := by omega
    simp [h2]
theorem letter_ok (b : UInt8) : ∀ W, Calls Tryz.prog 154 #[.int .u8 b.toNat] W fun e w' => e = .returned (.bool (isLetter b)) ∧ Drawn0 W w' := fun W => by
  refine lexer_letter.calls _ _ W ?_
  unfold lexer_letter.f isLetter
  by_cases h : (97 : Int) ≤ (b.toNat : Int)
  · rw [if_pos h]
    have h2 : 97 ≤ b.toNat := by omega
    simp [h2]
    omega
  · rw [if_neg h]
    have h2 : ¬ 97 ≤ b.toNat := by omega
    simp [h2]
theorem eq_toNat (b : UInt8) (k : Nat) (hk : k < 256) : (b == UInt8.ofNat k) = decide (b.toNat = k) := by
  rw [Bool.eq_iff_iff, beq_iff_eq, decide_eq_true_iff]
  constructor
  · intro h
    rw [h]
    simp
    omega
  · intro h
    rw [← h]
    simp
theorem part_ok (b : UInt8) (num : Bool) : ∀ W, Calls Tryz.prog 156 #[.int .u8 b.toNat, .bool num] W fun e w' => e = .returned (.bool (partB num b)) ∧ Drawn0 W w' := fun W => by
  refine lexer_part.calls _ _ _ W ?_
  have hl : lexer_letter.f (b.toNat : Int) = some (isLetter b) := by
    unfold lexer_letter.f isLetter
    by_cases h : (97 : Int) ≤ (b.toNat : Int)
    · rw [if_pos h]
      have h2 : 97 ≤ b.toNat := by omega
      simp [h2]
      omega
    · rw [if_neg h]
      have h2 : ¬ 97 ≤ b.toNat := by omega
      simp [h2]
  have hd : lexer_digit.f (b.toNat : Int) = some (isDigit b) := by
    unfold lexer_digit.f isDigit
    by_cases h : (48 : Int) ≤ (b.toNat : Int)
    · rw [if_pos h]
      have h2 : 48 ≤ b.toNat := by omega
      simp [h2]
      omega
    · rw [if_neg h]
      have h2 : ¬ 48 ≤ b.toNat := by omega
      simp [h2]
  have e1 : (b == 95) = decide (b.toNat = 95) := eq_toNat b 95 (by omega)
  have e2 : (b == 46) = decide (b.toNat = 46) := eq_toNat b 46 (by omega)
  unfold lexer_part.f partB
  rw [hl, hd, e1, e2]
  simp only [Option.bind_some]
  cases isLetter b
  · cases isDigit b
    · by_cases h3 : (b.toNat : Int) = 95
      · have h4 : b.toNat = 95 := by omega
        simp [h3, h4]
      · have h4 : ¬ b.toNat = 95 := by omega
        cases num
        · simp [h3, h4]
        · simp [h3, h4]
          rw [Bool.eq_iff_iff, beq_iff_eq, decide_eq_true_iff]
          omega
    · simp
  · simp
theorem part_ascii {num : Bool} {b : UInt8} (h : partB num b = true) : b.toNat < 128 := by
  unfold partB isLetter isDigit at h
  simp only [Bool.or_eq_true, Bool.and_eq_true, decide_eq_true_iff, beq_iff_eq] at h
  rcases h with ((h | h) | h) | h
  · omega
  · omega
  · rw [h]; decide
  · rw [h.2]; decide
/-! ### Numbers -/
/-- The number that digits tell. -/
def numOf (l : List UInt8) (n : Nat) : Nat := l.foldl (fun n b => 10 * n + (b.toNat - 48)) n
theorem parse_num : ∀ (l : List UInt8) (n k : Nat), (∀ b ∈ l, isDigit b = true) → n < 10 ^ k → k + l.length ≤ 18 → Lib.parseUint10 n l = .ok (numOf l n) ∧ numOf l n < 10 ^ (k + l.length)
  | [], n, k, _, hn, _ => by simp [Lib.parseUint10, numOf, hn]
  | b :: l, n, k, hd, hn, hk => by
    rw [List.length_cons] at hk
    have hb := hd b List.mem_cons_self
    unfold isDigit at hb
    simp only [Bool.and_eq_true, decide_eq_true_iff] at hb
    have h17 : (10 : Nat) ^ k ≤ 10 ^ 17 := Nat.pow_le_pow_right (by omega) (by omega)
    have e17 : (10 : Nat) ^ 17 = 100000000000000000 := by decide
    have hs : (10 : Nat) ^ (k + 1) = 10 * 10 ^ k := by rw [Nat.pow_succ, Nat.mul_comm]
    have ih := parse_num l (10 * n + (b.toNat - 48)) (k + 1) (fun x hx => hd x (List.mem_cons_of_mem _ hx)) (by omega) (by omega)
    simp only [Lib.parseUint10]
    rw [if_pos hb, if_neg (by omega), if_neg (by omega), Nat.mul_comm n 10, ih.1]
    refine ⟨rfl, ?_⟩
    rw [List.length_cons, show k + (l.length + 1) = k + 1 + l.length by omega]
    exact ih.2
theorem atoi_num (l : List UInt8) (hl : l ≠ []) (hd : ∀ b ∈ l, isDigit b = true) (hk : l.length ≤ 18) : Lib.atoiAll l = .ok (numOf l 0 : Nat) := by
  obtain ⟨h1, h2⟩ := parse_num l 0 0 hd (by decide) (by omega)
  have h18 : (10 : Nat) ^ (0 + l.length) ≤ 10 ^ 18 := Nat.pow_le_pow_right (by omega) (by omega)
  have e18 : (10 : Nat) ^ 18 = 1000000000000000000 := by decide
  cases l with
  | nil => exact absurd rfl hl
  | cons c r =>
    have hb := hd c List.mem_cons_self
    unfold isDigit at hb
    simp only [Bool.and_eq_true, decide_eq_true_iff] at hb
    have hm : Lib.parseMag (c :: r) = .ok (numOf (c :: r) 0) := by
      unfold Lib.parseMag
      rw [if_neg (by simp), h1]
    rw [Lib.atoiAll_plain c r (by omega) (by omega), hm]
    simp only [Lib.signless]
    split
    · omega
    · rfl
theorem cutAt_sz (s : ByteArray) (c : UInt8) : (cutAt s c).1.size + (cutAt s c).2.1.size ≤ s.size := by
  have h := indexByte_lt s.data.toList c
  unfold cutAt
  split
  · simp only [ByteArray.size_extract]
    omega
  · show s.size + 0 ≤ s.size
    omega
theorem cutAt_mem (s : ByteArray) (c : UInt8) : ∀ b ∈ ((cutAt s c).1 ++ (cutAt s c).2.1).data.toList, b ∈ s.data.toList := by
  intro b hb
  rw [ByteArray.data_append, Array.toList_append, List.mem_append] at hb
  unfold cutAt at hb
  split at hb
  · simp only [ByteArray.data_extract, Array.toList_extract, List.extract] at hb
    rcases hb with hb | hb
    · exact List.mem_of_mem_drop (List.mem_of_mem_take hb)
    · exact List.mem_of_mem_drop (List.mem_of_mem_take hb)
  · rcases hb with hb | hb
    · exact hb
    · simp at hb
theorem cutAt_first (s : ByteArray) (hs : 0 < s.size) (hf : isDigit s[0] = true) : 0 < (cutAt s 46).1.size := by
  have h := indexByte_lt s.data.toList 46
  have hl : s.data.toList.length = s.size := by simp
  have hne : Lib.indexByte s.data.toList 46 ≠ 0 := by
    have e : s.data.toList = s[0] :: s.data.toList.drop 1 := by
      have := drop_cons s 0 hs
      rw [List.drop_zero] at this
      exact this
    have h2 : (s[0] == 46) = false := by
      rw [beq_eq_false_iff_ne]
      intro e2
      rw [e2] at hf
      exact absurd hf (by decide)
    rw [e, Lib.indexByte, h2]
    have hge := Lib.indexByte_ge (s.data.toList.drop 1) 46
    simp only [Bool.false_eq_true, if_false]
    split
    · omega
    · rename_i h3
      rw [beq_iff_eq] at h3
      omega
  unfold cutAt
  split
  · simp only [ByteArray.size_extract]
    omega
  · exact hs
theorem cutAt_none (s : ByteArray) (c : UInt8) (h : (cutAt s c).2.2 = false) : (cutAt s c).2.1.size = 0 := by
  unfold cutAt at h ⊢
  split at h
  · cases h
  · rename_i h2
    rw [if_neg h2]
    rfl
/-- What 'value' returns. -/
def valF (s : ByteArray) : Int × Int × Int :=
  if ((cutAt s 46).1 ++ (cutAt s 46).2.1).data.toList.any (fun b => !isDigit b) then (0, 0, 8)
  else if 9 < (cutAt s 46).1.size ∨ ((cutAt s 46).2.2 = true ∧ ((cutAt s 46).2.1.size < 1 ∨ 2 < (cutAt s 46).2.1.size)) then (0, 0, 8)
  else ratMk (numOf ((cutAt s 46).1 ++ (cutAt s 46).2.1).data.toList 0 : Nat) (if (cutAt s 46).2.1.size = 0 then 1 else if (cutAt s 46).2.1.size = 1 then 10 else 100)
theorem tens (i : Nat) (v : Int) (h : (i = 0 ∧ v = 1) ∨ (i = 1 ∧ v = 10) ∨ (i = 2 ∧ v = 100)) (W : World) :
    (Instr.index 180 (.agg #[.int .i64 1, .int .i64 10, .int .i64 100]) (.int .i64 i)).run Tryz.prog W = .ok (.int .i64 v) W := by
  have hu := Tryz.underlying180
  rcases h with ⟨rfl, rfl⟩ | ⟨rfl, rfl⟩ | ⟨rfl, rfl⟩ <;> simp [Instr.index, run_underlying hu, Sem.run, go_sem]
theorem iter_drew (w : World) (s : ByteArray) (p n : Nat) : (w.iter s p).drewN n = (w.drewN n).iter s p := rfl
theorem not_any {l : List UInt8} {i : Nat} {f : UInt8 → Bool} (h : i < l.length) (hf : f l[i] = true) : l.any f = true := List.any_eq_true.mpr ⟨l[i], List.getElem_mem h, hf⟩
set_option maxRecDepth 100000 in
set_option maxHeartbeats 8000000 in
theorem value_ok (s : ByteArray) (w : World) (hs1 : 0 < s.size) (hf : isDigit s[0] = true) (hs : s.size ≤ 8000) (hp : ∀ b ∈ s.data.toList, partB true b = true) :
    Calls Tryz.prog 157 #[.string s] w fun e w' => e = .returned (.tuple #[.agg #[.int .i64 (valF s).1, .int .i64 (valF s).2.1], .int .i64 (valF s).2.2]) ∧ Below w.heap.size w w' := by
  have hu30 := Tryz.underlying96
  have hu68 := Tryz.underlying180
  have hC := fun W => cut_one s 46 W (by omega)
  have hsz := cutAt_sz s 46
  have hmem := cutAt_mem s 46
  have hv : valF s = if ((cutAt s 46).1 ++ (cutAt s 46).2.1).data.toList.any (fun b => !isDigit b) then (0, 0, 8)
    else if 9 < (cutAt s 46).1.size ∨ ((cutAt s 46).2.2 = true ∧ ((cutAt s 46).2.1.size < 1 ∨ 2 < (cutAt s 46).2.1.size)) then (0, 0, 8)
    else ratMk (numOf ((cutAt s 46).1 ++ (cutAt s 46).2.1).data.toList 0 : Nat) (if (cutAt s 46).2.1.size = 0 then 1 else if (cutAt s 46).2.1.size = 1 then 10 else 100) := rfl
  have ha0 : 0 < (cutAt s 46).1.size := cutAt_first s hs1 hf
  have hpn : (cutAt s 46).2.2 = false → (cutAt s 46).2.1.size = 0 := cutAt_none s 46
  generalize cutAt s 46 = q at *
  obtain ⟨a, b, p⟩ := q
  simp only at hC hsz hmem hv ha0 hpn
  have hds : (a ++ b).size = a.size + b.size := ByteArray.size_append
  have hasc : ∀ (k : Nat) (h : k < (a ++ b).size), ((a ++ b)[k]).toNat < 128 := by
    intro k h
    have hm : (a ++ b)[k] ∈ (a ++ b).data.toList := by
      have : (a ++ b).data.toList[k]'(by simpa using h) = (a ++ b)[k] := rfl
      rw [← this]
      exact List.getElem_mem _
    exact part_ascii (hp _ (hmem _ hm))
  have g1 : a.size + b.size ≤ 9223372036854775807 := by omega
  have HC := Lib.hid hC
  have HV := Lib.hid hv
  have HDS := Lib.hid hds
  have HASC := Lib.hid hasc
  have HPN := Lib.hid hpn
  clear hpn hC hv hds hasc hmem hp hf
  go_enter Tryz.func157, Tryz.ntmps157
  go_wp2_with fail
  refine (HC.out _).mono ?_
  rintro e w1 ⟨rfl, ⟨m, rfl⟩⟩
  go_wp2_with fail
  go_loopg [7] (a.size + b.size) (fun k v7 wr => ∃ (i mm : Nat), k = a.size + b.size - i ∧ i ≤ a.size + b.size ∧ Aside0 (∀ (j : Nat) (h : j < (a ++ b).size), j < i → isDigit (a ++ b)[j] = true) ∧ wr = ((w.alloc (Obj.cells #[Value.int IntKind.i64 0, Value.int IntKind.i64 0] 96)).drewN mm).iter (a ++ b) i)
  case atStart => exact ⟨0, m, rfl, by omega, ⟨fun j h h0 => absurd h0 (Nat.not_lt_zero _)⟩, rfl⟩
  case round =>
    obtain ⟨i, mm, rfl, hi, HA, rfl⟩ := hrel
    have e0 : ((w.alloc (Obj.cells #[Value.int IntKind.i64 0, Value.int IntKind.i64 0] 96)).drewN mm).heap.size = w.heap.size + 1 := by simp
    have k0 : ∀ q, (((w.alloc (Obj.cells #[Value.int IntKind.i64 0, Value.int IntKind.i64 0] 96)).drewN mm).iter (a ++ b) q).cell? ⟨w.heap.size, 0, none⟩ = some (.int .i64 0) := fun q => by unfold World.iter; go_simp
    have k1 : ∀ q, (((w.alloc (Obj.cells #[Value.int IntKind.i64 0, Value.int IntKind.i64 0] 96)).drewN mm).iter (a ++ b) q).cell? ⟨w.heap.size, 1, none⟩ = some (.int .i64 0) := fun q => by unfold World.iter; go_simp
    have l0 : ∀ q, (((w.alloc (Obj.cells #[Value.int IntKind.i64 0, Value.int IntKind.i64 0] 96)).drewN mm).iter (a ++ b) q).frozen? ⟨w.heap.size, 0, none⟩ = false := fun q => by unfold World.iter; go_simp
    have l1 : ∀ q, (((w.alloc (Obj.cells #[Value.int IntKind.i64 0, Value.int IntKind.i64 0] 96)).drewN mm).iter (a ++ b) q).frozen? ⟨w.heap.size, 1, none⟩ = false := fun q => by unfold World.iter; go_simp
    by_cases hlt : i < (a ++ b).size
    · have hnx : ∀ ty, (Instr.next (.pointer (some ⟨w.heap.size + 1, 0, none⟩)) true ty).run Tryz.prog (((w.alloc (Obj.cells #[Value.int IntKind.i64 0, Value.int IntKind.i64 0] 96)).drewN mm).iter (a ++ b) i) = .ok (.tuple #[.bool true, .int .i64 i, .int .i32 ((a ++ b)[i]'hlt).toNat]) (((w.alloc (Obj.cells #[Value.int IntKind.i64 0, Value.int IntKind.i64 0] 96)).drewN mm).iter (a ++ b) (i + 1)) := by
        intro ty
        have h := run_next_ascii (P := Tryz.prog) ((w.alloc (Obj.cells #[Value.int IntKind.i64 0, Value.int IntKind.i64 0] 96)).drewN mm) (a ++ b) i ty hlt (HASC.out i hlt)
        rw [e0] at h
        exact h
      have hlz : (i : Int) < ((a ++ b).size : Int) := by omega
      have hl0 : (0 : Int) ≤ (i : Int) := by omega
      have hlt2 : i < a.size + b.size := by have := HDS.out; omega
      have hlz2 : (i : Int) < (a.size : Int) + (b.size : Int) := by omega
      clear e0
      cases hdg : isDigit (a ++ b)[i] with
      | true =>
        have HD := Lib.hid (digit_ok (a ++ b)[i])
        rw [hdg] at HD
        have HG := Aside0.mk hdg
        clear hdg
        go_wp2_with fail
        refine (HD.out _).mono ?_
        rintro e w1 ⟨rfl, ⟨m2, rfl⟩⟩
        go_wp2_with fail
        go_roundg (a.size + b.size - (i + 1))
        case measure => omega
        case rel =>
          refine ⟨i + 1, mm + m2, rfl, by omega, ⟨?_⟩, by first | rfl | (rw [iter_drew, World.drewN_drewN])⟩
          intro j h hj
          by_cases e : j = i
          · subst e
            exact HG.out
          · exact HA.out j h (by omega)
      | false =>
        have HD := Lib.hid (digit_ok (a ++ b)[i])
        rw [hdg] at HD
        have hany : (a ++ b).data.toList.any (fun b => !isDigit b) = true := not_any (i := i) (by simpa using hlt2) (by
          have : (a ++ b).data.toList[i]'(by simpa using hlt2) = (a ++ b)[i] := rfl
          rw [this, hdg]
          rfl)
        have HE : Aside0 (valF s = (0, 0, 8)) := ⟨by rw [HV.out, if_pos hany]⟩
        clear hdg hany
        go_wp2_with fail
        refine (HD.out _).mono ?_
        rintro e w1 ⟨rfl, ⟨m2, rfl⟩⟩
        go_wp2_with fail
        (try simp only [Exit.inBlock, Exit.then])
        refine bodyPost_ret (v := .tuple #[.agg #[.int .i64 0, .int .i64 0], .int .i64 8]) (by simp [results, Tryz.results157, go_sem, k0, k1, l0, l1]) rfl ⟨by rw [HE.out], ?_⟩
        exact (by repeat (first | exact Below.refl _ _ | apply below_alloc | apply pw_below_drewN | apply below_drew | refine below_set ?_ (Nat.le_refl _)))
    · have hend : i = a.size + b.size := by have := HDS.out; omega
      have hnx : ∀ ty, (Instr.next (.pointer (some ⟨w.heap.size + 1, 0, none⟩)) true ty).run Tryz.prog (((w.alloc (Obj.cells #[Value.int IntKind.i64 0, Value.int IntKind.i64 0] 96)).drewN mm).iter (a ++ b) i) = .ok (.tuple #[.bool false]) (((w.alloc (Obj.cells #[Value.int IntKind.i64 0, Value.int IntKind.i64 0] 96)).drewN mm).iter (a ++ b) i) := by
        intro ty
        have h := run_next_end (P := Tryz.prog) ((w.alloc (Obj.cells #[Value.int IntKind.i64 0, Value.int IntKind.i64 0] 96)).drewN mm) (a ++ b) i ty hlt
        rw [e0] at h
        exact h
      have hall : ∀ x ∈ (a ++ b).data.toList, isDigit x = true := by
        intro x hx
        obtain ⟨j, hj, rfl⟩ := List.mem_iff_getElem.mp hx
        have hj2 : j < (a ++ b).size := by simpa using hj
        exact HA.out j hj2 (by have := HDS.out; omega)
      have hnone : (a ++ b).data.toList.any (fun b => !isDigit b) = false := by
        rw [List.any_eq_false]
        intro x hx
        rw [hall x hx]
        decide
      have hv := HV.out
      rw [hnone, if_neg (by decide)] at hv
      have HALL := Lib.hid hall
      clear hall hnone e0 hend HA hlt
      have hnn : (a ++ b).data.toList ≠ [] := by
        intro h
        have h3 : (a ++ b).data.toList.length = (a ++ b).size := by simp
        rw [h, List.length_nil] at h3
        have h2 := HDS.out
        omega
      by_cases h9 : 9 < a.size
      · have HE : Aside0 (valF s = (0, 0, 8)) := ⟨by rw [hv, if_pos (Or.inl h9)]⟩
        have h9z : decide ((9 : Int) < (a.size : Int)) = true := decide_eq_true (by omega)
        clear hv hnn
        go_wp2_with fail
        (try simp only [Exit.inBlock, Exit.then])
        refine bodyPost_ret (v := .tuple #[.agg #[.int .i64 0, .int .i64 0], .int .i64 8]) (by simp [results, Tryz.results157, go_sem, k0, k1, l0, l1]) rfl ⟨by rw [HE.out], ?_⟩
        exact (by repeat (first | exact Below.refl _ _ | apply below_alloc | apply pw_below_drewN | apply below_drew | refine below_set ?_ (Nat.le_refl _)))
      · have h9z : decide ((9 : Int) < (a.size : Int)) = false := decide_eq_false (by omega)
        by_cases hbad : p = true ∧ (b.size < 1 ∨ 2 < b.size)
        · have HE : Aside0 (valF s = (0, 0, 8)) := ⟨by rw [hv, if_pos (Or.inr hbad)]⟩
          obtain ⟨rfl, hb3⟩ := hbad
          clear hv hnn
          by_cases hb1 : b.size < 1
          · have hb1z : decide ((b.size : Int) < 1) = true := decide_eq_true (by omega)
            clear hb3
            go_wp2_with fail
            (try simp only [Exit.inBlock, Exit.then])
            refine bodyPost_ret (v := .tuple #[.agg #[.int .i64 0, .int .i64 0], .int .i64 8]) (by simp [results, Tryz.results157, go_sem, k0, k1, l0, l1]) rfl ⟨by rw [HE.out], ?_⟩
            exact (by repeat (first | exact Below.refl _ _ | apply below_alloc | apply pw_below_drewN | apply below_drew | refine below_set ?_ (Nat.le_refl _)))
          · have hb1z : decide ((b.size : Int) < 1) = false := decide_eq_false (by omega)
            have hb2z : decide ((2 : Int) < (b.size : Int)) = true := decide_eq_true (by omega)
            clear hb3
            go_wp2_with fail
            (try simp only [Exit.inBlock, Exit.then])
            refine bodyPost_ret (v := .tuple #[.agg #[.int .i64 0, .int .i64 0], .int .i64 8]) (by simp [results, Tryz.results157, go_sem, k0, k1, l0, l1]) rfl ⟨by rw [HE.out], ?_⟩
            exact (by repeat (first | exact Below.refl _ _ | apply below_alloc | apply pw_below_drewN | apply below_drew | refine below_set ?_ (Nat.le_refl _)))
        · rw [if_neg (by simp only [not_or]; exact ⟨h9, hbad⟩)] at hv
          have hlen : (a ++ b).data.toList.length ≤ 18 := by
            have := HDS.out
            have h3 : (a ++ b).data.toList.length = (a ++ b).size := by simp
            have h4 : b.size ≤ 2 := by
              cases p with
              | false => have := HPN.out rfl; omega
              | true => simp only [true_and, not_or] at hbad; omega
            omega
          have hat := atoi_num (a ++ b).data.toList hnn HALL.out hlen
          have hnb : numOf (a ++ b).data.toList 0 < 10 ^ 18 := by
            have h1 := (parse_num (a ++ b).data.toList 0 0 HALL.out (by decide) (by omega)).2
            have h18 : (10 : Nat) ^ (0 + (a ++ b).data.toList.length) ≤ 10 ^ 18 := Nat.pow_le_pow_right (by omega) (by omega)
            omega
          have e18 : (10 : Nat) ^ 18 = 1000000000000000000 := by decide
          rw [e18] at hnb
          clear e18 hlen hnn h9
          have hcases : (p = false ∧ b.size = 0) ∨ (p = true ∧ b.size = 1) ∨ (p = true ∧ b.size = 2) := by
            cases p with
            | false => exact .inl ⟨rfl, HPN.out rfl⟩
            | true =>
              simp only [true_and, not_or] at hbad
              have h5 : b.size = 1 ∨ b.size = 2 := by omega
              rcases h5 with h5 | h5
              · exact .inr (.inl ⟨rfl, h5⟩)
              · exact .inr (.inr ⟨rfl, h5⟩)
          clear hbad
          rcases hcases with ⟨rfl, hb⟩ | ⟨rfl, hb⟩ | ⟨rfl, hb⟩
          · have hbz : (b.size : Int) = 0 := by omega
            have HAT := Lib.hid (fun W => atoi_ok (a ++ b) _ W (by simp only [ByteArray.size_append]; omega) hat)
            have hmk : rational_Make.f (numOf (a ++ b).data.toList 0 : Nat) 1 = some ((ratMk (numOf (a ++ b).data.toList 0 : Nat) 1).1, (ratMk (numOf (a ++ b).data.toList 0 : Nat) 1).2.1, (ratMk (numOf (a ++ b).data.toList 0 : Nat) 1).2.2) := by
              unfold rational_Make.f
              rw [if_pos ⟨by unfold inI64; omega, by unfold inI64; omega⟩]
            have HE : Aside0 (valF s = ratMk (numOf (a ++ b).data.toList 0 : Nat) 1) := ⟨by rw [hv]; rw [if_pos hb]⟩
            clear hv hat hnb hb
            generalize ratMk (numOf (a ++ b).data.toList 0 : Nat) 1 = r at *
            generalize (numOf (a ++ b).data.toList 0 : Nat) = N at *
            obtain ⟨r1, r2, r3⟩ := r
            have hix : ∀ W, (Instr.index 180 (.agg #[.int .i64 1, .int .i64 10, .int .i64 100]) (.int .i64 0)).run Tryz.prog W = .ok (.int .i64 1) W := fun W => tens 0 1 (by simp) W
            have HM := Lib.hid (fun W => rational_Make.calls N 1 r1 r2 r3 W hmk)
            clear hmk
            go_wp2_with fail
            refine (HAT.out _).mono ?_
            rintro e w1 ⟨rfl, hb1⟩
            go_wp2_with fail
            refine (HM.out _).mono ?_
            rintro e w2 ⟨rfl, hb2⟩
            have s1 := hb1.size
            simp [World.iter] at s1
            have s2 := hb2.size
            have q0 : w2.cell? ⟨w.heap.size, 0, none⟩ = some (.int .i64 0) := (hb2.cell (p := ⟨w.heap.size, 0, none⟩) (by simp; omega)).trans ((hb1.cell (p := ⟨w.heap.size, 0, none⟩) (by simp [World.iter]; omega)).trans (k0 _))
            have q1 : w2.cell? ⟨w.heap.size, 1, none⟩ = some (.int .i64 0) := (hb2.cell (p := ⟨w.heap.size, 1, none⟩) (by simp; omega)).trans ((hb1.cell (p := ⟨w.heap.size, 1, none⟩) (by simp [World.iter]; omega)).trans (k1 _))
            have q2 : w2.frozen? ⟨w.heap.size, 0, none⟩ = false := (hb2.frozen (p := ⟨w.heap.size, 0, none⟩) (by simp; omega)).trans ((hb1.frozen (p := ⟨w.heap.size, 0, none⟩) (by simp [World.iter]; omega)).trans (l0 _))
            have q3 : w2.frozen? ⟨w.heap.size, 1, none⟩ = false := (hb2.frozen (p := ⟨w.heap.size, 1, none⟩) (by simp; omega)).trans ((hb1.frozen (p := ⟨w.heap.size, 1, none⟩) (by simp [World.iter]; omega)).trans (l1 _))
            have HB : Aside0 (Below w.heap.size w w2) := ⟨((by unfold World.iter; repeat (first | exact Below.refl _ _ | apply below_alloc | apply pw_below_drewN | apply below_drew) : Below w.heap.size w (((w.alloc (Obj.cells #[Value.int IntKind.i64 0, Value.int IntKind.i64 0] 96)).drewN mm).iter (a ++ b) i)).trans (hb1.mono (by simp [World.iter]; omega))).trans (hb2.mono (by omega))⟩
            clear hb1 hb2 s1 s2 hix
            go_wp2_with fail
            (try simp only [Exit.inBlock, Exit.then])
            refine bodyPost_ret (v := .tuple #[.agg #[.int .i64 r1, .int .i64 r2], .int .i64 r3]) (by simp [results, Tryz.results157, go_sem, q0, q1, q2, q3]) rfl ⟨by rw [HE.out], ?_⟩
            exact (by repeat (first | exact HB.out | refine below_set ?_ (Nat.le_refl _)))
          · have hbz : (b.size : Int) = 1 := by omega
            have HAT := Lib.hid (fun W => atoi_ok (a ++ b) _ W (by simp only [ByteArray.size_append]; omega) hat)
            have hmk : rational_Make.f (numOf (a ++ b).data.toList 0 : Nat) 10 = some ((ratMk (numOf (a ++ b).data.toList 0 : Nat) 10).1, (ratMk (numOf (a ++ b).data.toList 0 : Nat) 10).2.1, (ratMk (numOf (a ++ b).data.toList 0 : Nat) 10).2.2) := by
              unfold rational_Make.f
              rw [if_pos ⟨by unfold inI64; omega, by unfold inI64; omega⟩]
            have HE : Aside0 (valF s = ratMk (numOf (a ++ b).data.toList 0 : Nat) 10) := ⟨by rw [hv]; rw [if_neg (by omega), if_pos hb]⟩
            clear hv hat hnb hb
            generalize ratMk (numOf (a ++ b).data.toList 0 : Nat) 10 = r at *
            generalize (numOf (a ++ b).data.toList 0 : Nat) = N at *
            obtain ⟨r1, r2, r3⟩ := r
            have hix : ∀ W, (Instr.index 180 (.agg #[.int .i64 1, .int .i64 10, .int .i64 100]) (.int .i64 1)).run Tryz.prog W = .ok (.int .i64 10) W := fun W => tens 1 10 (by simp) W
            have HM := Lib.hid (fun W => rational_Make.calls N 10 r1 r2 r3 W hmk)
            clear hmk
            go_wp2_with fail
            refine (HAT.out _).mono ?_
            rintro e w1 ⟨rfl, hb1⟩
            go_wp2_with fail
            refine (HM.out _).mono ?_
            rintro e w2 ⟨rfl, hb2⟩
            have s1 := hb1.size
            simp [World.iter] at s1
            have s2 := hb2.size
            have q0 : w2.cell? ⟨w.heap.size, 0, none⟩ = some (.int .i64 0) := (hb2.cell (p := ⟨w.heap.size, 0, none⟩) (by simp; omega)).trans ((hb1.cell (p := ⟨w.heap.size, 0, none⟩) (by simp [World.iter]; omega)).trans (k0 _))
            have q1 : w2.cell? ⟨w.heap.size, 1, none⟩ = some (.int .i64 0) := (hb2.cell (p := ⟨w.heap.size, 1, none⟩) (by simp; omega)).trans ((hb1.cell (p := ⟨w.heap.size, 1, none⟩) (by simp [World.iter]; omega)).trans (k1 _))
            have q2 : w2.frozen? ⟨w.heap.size, 0, none⟩ = false := (hb2.frozen (p := ⟨w.heap.size, 0, none⟩) (by simp; omega)).trans ((hb1.frozen (p := ⟨w.heap.size, 0, none⟩) (by simp [World.iter]; omega)).trans (l0 _))
            have q3 : w2.frozen? ⟨w.heap.size, 1, none⟩ = false := (hb2.frozen (p := ⟨w.heap.size, 1, none⟩) (by simp; omega)).trans ((hb1.frozen (p := ⟨w.heap.size, 1, none⟩) (by simp [World.iter]; omega)).trans (l1 _))
            have HB : Aside0 (Below w.heap.size w w2) := ⟨((by unfold World.iter; repeat (first | exact Below.refl _ _ | apply below_alloc | apply pw_below_drewN | apply below_drew) : Below w.heap.size w (((w.alloc (Obj.cells #[Value.int IntKind.i64 0, Value.int IntKind.i64 0] 96)).drewN mm).iter (a ++ b) i)).trans (hb1.mono (by simp [World.iter]; omega))).trans (hb2.mono (by omega))⟩
            clear hb1 hb2 s1 s2 hix
            go_wp2_with fail
            (try simp only [Exit.inBlock, Exit.then])
            refine bodyPost_ret (v := .tuple #[.agg #[.int .i64 r1, .int .i64 r2], .int .i64 r3]) (by simp [results, Tryz.results157, go_sem, q0, q1, q2, q3]) rfl ⟨by rw [HE.out], ?_⟩
            exact (by repeat (first | exact HB.out | refine below_set ?_ (Nat.le_refl _)))
          · have hbz : (b.size : Int) = 2 := by omega
            have HAT := Lib.hid (fun W => atoi_ok (a ++ b) _ W (by simp only [ByteArray.size_append]; omega) hat)
            have hmk : rational_Make.f (numOf (a ++ b).data.toList 0 : Nat) 100 = some ((ratMk (numOf (a ++ b).data.toList 0 : Nat) 100).1, (ratMk (numOf (a ++ b).data.toList 0 : Nat) 100).2.1, (ratMk (numOf (a ++ b).data.toList 0 : Nat) 100).2.2) := by
              unfold rational_Make.f
              rw [if_pos ⟨by unfold inI64; omega, by unfold inI64; omega⟩]
            have HE : Aside0 (valF s = ratMk (numOf (a ++ b).data.toList 0 : Nat) 100) := ⟨by rw [hv]; rw [if_neg (by omega), if_neg (by omega)]⟩
            clear hv hat hnb hb
            generalize ratMk (numOf (a ++ b).data.toList 0 : Nat) 100 = r at *
            generalize (numOf (a ++ b).data.toList 0 : Nat) = N at *
            obtain ⟨r1, r2, r3⟩ := r
            have hix : ∀ W, (Instr.index 180 (.agg #[.int .i64 1, .int .i64 10, .int .i64 100]) (.int .i64 2)).run Tryz.prog W = .ok (.int .i64 100) W := fun W => tens 2 100 (by simp) W
            have HM := Lib.hid (fun W => rational_Make.calls N 100 r1 r2 r3 W hmk)
            clear hmk
            go_wp2_with fail
            refine (HAT.out _).mono ?_
            rintro e w1 ⟨rfl, hb1⟩
            go_wp2_with fail
            refine (HM.out _).mono ?_
            rintro e w2 ⟨rfl, hb2⟩
            have s1 := hb1.size
            simp [World.iter] at s1
            have s2 := hb2.size
            have q0 : w2.cell? ⟨w.heap.size, 0, none⟩ = some (.int .i64 0) := (hb2.cell (p := ⟨w.heap.size, 0, none⟩) (by simp; omega)).trans ((hb1.cell (p := ⟨w.heap.size, 0, none⟩) (by simp [World.iter]; omega)).trans (k0 _))
            have q1 : w2.cell? ⟨w.heap.size, 1, none⟩ = some (.int .i64 0) := (hb2.cell (p := ⟨w.heap.size, 1, none⟩) (by simp; omega)).trans ((hb1.cell (p := ⟨w.heap.size, 1, none⟩) (by simp [World.iter]; omega)).trans (k1 _))
            have q2 : w2.frozen? ⟨w.heap.size, 0, none⟩ = false := (hb2.frozen (p := ⟨w.heap.size, 0, none⟩) (by simp; omega)).trans ((hb1.frozen (p := ⟨w.heap.size, 0, none⟩) (by simp [World.iter]; omega)).trans (l0 _))
            have q3 : w2.frozen? ⟨w.heap.size, 1, none⟩ = false := (hb2.frozen (p := ⟨w.heap.size, 1, none⟩) (by simp; omega)).trans ((hb1.frozen (p := ⟨w.heap.size, 1, none⟩) (by simp [World.iter]; omega)).trans (l1 _))
            have HB : Aside0 (Below w.heap.size w w2) := ⟨((by unfold World.iter; repeat (first | exact Below.refl _ _ | apply below_alloc | apply pw_below_drewN | apply below_drew) : Below w.heap.size w (((w.alloc (Obj.cells #[Value.int IntKind.i64 0, Value.int IntKind.i64 0] 96)).drewN mm).iter (a ++ b) i)).trans (hb1.mono (by simp [World.iter]; omega))).trans (hb2.mono (by omega))⟩
            clear hb1 hb2 s1 s2 hix
            go_wp2_with fail
            (try simp only [Exit.inBlock, Exit.then])
            refine bodyPost_ret (v := .tuple #[.agg #[.int .i64 r1, .int .i64 r2], .int .i64 r3]) (by simp [results, Tryz.results157, go_sem, q0, q1, q2, q3]) rfl ⟨by rw [HE.out], ?_⟩
            exact (by repeat (first | exact HB.out | refine below_set ?_ (Nat.le_refl _)))
end

end Go.Proofs.YthcjocojngochaaGreatDoor.X
