-- Written by a program of mine (wip/tools/xprint.py) over the kit's print.py: printed functions and hand-proved ones side by side.
import Derived.Test.YthcjocojngochaaGreatDoorXx0
import Derived.Test.YthcjocojngochaaGreatDoorXx5
namespace Go.Proofs.YthcjocojngochaaGreatDoor.X
open Go.RowKit Go.Proofs.YthcjocojngochaaGreatDoorW.PrintWords Go.Proofs.YthcjocojngochaaGreatDoorW.PrintLast Go.Proofs.YthcjocojngochaaGreatDoorW.PrintMore
attribute [local go_sem] max2_int min2_int max_two min_two max_three min_three max_four min_four   -- for this text's walks alone
set_option linter.unusedVariables false
set_option linter.unusedSimpArgs false

/-! ### lexer_scanner_token: function 125 -/
-- by hand: (*cohousing/lexer.scanner).token
section
attribute [local go_sem ↓] Go.wp_at_zero Go.wp_at_succ
/-- The world under a name, with what is known of it. -/
theorem gen_world {P : Program} {Q : Exit → Act → World → Prop} {a : Act} {c : Code} {W : World} (R : World → Prop) (h : R W) (k : ∀ W', R W' → c.wp P Q a W') : c.wp P Q a W := k W h
theorem Only.own {g : Nat} {w w' : World} (h : Only g w w') {e : TypeId} {size n : Nat} {v : Value} {xs : List Value} (ho : w.ownsRow (g + 1) e size v n xs) : w'.ownsRow (g + 1) e size v n xs := by
  refine ⟨ho.1, ?_⟩
  rcases ho.2 with hn | ⟨b, cap, cur, rfl, hb, hg, rest⟩
  · exact .inl hn
  · refine .inr ⟨b, cap, cur, rfl, hb, ?_, rest⟩
    rw [h.keep.2 b (Array.getElem?_eq_some_iff.1 hg).1 (by omega) (by simp)]
    exact hg
theorem own_slice {w : World} {base : Nat} {e : TypeId} {size n : Nat} {v : Value} {xs : List Value} (h : w.ownsRow base e size v n xs) : ∃ A cap, v = .slice A n cap := by
  rcases h.2 with ⟨rfl, rfl⟩ | ⟨b, cap, cur, rfl, _⟩
  · exact ⟨_, _, rfl⟩
  · exact ⟨_, _, rfl⟩
/-- The cells of a token. -/
def tokCells (t : S98) : List Value := [.int .i64 t.f0, .int .i64 t.f1, .string t.f2, .int .i64 t.f3.f0, .int .i64 t.f3.f1]
/-- What a token that was read leaves. -/
structure TokPost (g : Nat) (s : ByteArray) (w : World) (j : Nat) (n : Nat) (xs : List Value) (e : Ending) (w' : World) : Prop where
  ret : e = .returned (.tuple #[])
  out : ∃ v', Sc w' g s (j : Int) v' ∧ w'.ownsRow (g + 1) 98 5 v' n xs
  below : Below g w w'
/-- What an error leaves. -/
structure TokFail (g : Nat) (w : World) (c : Int) (i : Nat) (e : Ending) (w' : World) : Prop where
  pan : e = .panicked [{ v := .iface 139 (.agg #[.int .i64 c, .int .i64 i]), recovered := false }]
  below : Below g w w'
set_option maxRecDepth 100000 in
set_option maxHeartbeats 4000000 in
theorem tok_full (g : Nat) (s : ByteArray) (i : Nat) (v : Value) (xs : List Value) (w : World) (hS : Sc w g s i v) (hO : w.ownsRow (g + 1) 98 5 v 2000 xs) (hi : i < s.size) (hs : s.size ≤ 8000) :
    Calls Tryz.prog 125 #[.pointer (some ⟨g, 0, none⟩)] w (TokFail g w 2 i) := by
  have hu49 := Tryz.underlying142
  obtain ⟨A, cap, rfl⟩ := own_slice hO
  obtain ⟨c0, c1, c2, f0, f1, f2⟩ := hS.cells
  have hltz : (i : Int) < (s.size : Int) := by omega
  have hj0 : (0 : Int) ≤ (i : Int) := by omega
  have HF := Lib.hid (fail_ok (some ⟨g, 0, none⟩) 2 i)
  clear hS hO
  go_enter Tryz.func125, Tryz.ntmps125
  go_wp2_with fail
  go_quiet (fail)
  go_wp2_with fail
  refine (HF.out _).mono ?_
  rintro e w' ⟨rfl, rfl⟩
  exact ⟨rfl, ⟨rfl, by repeat (first | exact Below.refl _ _ | apply pw_below_drewN)⟩⟩
set_option maxRecDepth 100000 in
set_option maxHeartbeats 4000000 in
theorem tok_nosign (g : Nat) (s : ByteArray) (i : Nat) (v : Value) (n : Nat) (xs : List Value) (w : World) (hS : Sc w g s i v) (hO : w.ownsRow (g + 1) 98 5 v n xs) (hn : n < 2000) (hi : i < s.size) (hs : s.size ≤ 8000)
    (hd : isDigit s[i] = false) (hl : isLetter s[i] = false) (hz : signN (s.data.toList.drop i) = 0) :
    Calls Tryz.prog 125 #[.pointer (some ⟨g, 0, none⟩)] w (TokFail g w 10 i) := by
  have hu49 := Tryz.underlying142
  obtain ⟨A, cap, rfl⟩ := own_slice hO
  obtain ⟨c0, c1, c2, f0, f1, f2⟩ := hS.cells
  have hltz : (i : Int) < (s.size : Int) := by omega
  have hj0 : (0 : Int) ≤ (i : Int) := by omega
  have hnz : ((n : Int) == 2000) = false := by rw [beq_eq_false_iff_ne]; omega
  have HF := Lib.hid (fail_ok (some ⟨g, 0, none⟩) 10 i)
  have HD := Lib.hid (digit_ok s[i])
  have HL := Lib.hid (letter_ok s[i])
  have HSG := Lib.hid (fun W (h : Sc W g s i (.slice A n cap)) => sign_ok g s i (.slice A n cap) W h hi hs)
  rw [hd] at HD
  rw [hl] at HL
  rw [hz] at HSG
  have HS := Aside0.mk hS
  clear hS hO hd hl hz hn
  go_enter Tryz.func125, Tryz.ntmps125
  go_wp2_with fail
  go_quiet (fail)
  go_wp2_with fail
  refine (HD.out _).mono ?_
  rintro e w' ⟨rfl, ⟨m1, rfl⟩⟩
  go_wp2_with fail
  refine (HL.out _).mono ?_
  rintro e w' ⟨rfl, ⟨m2, rfl⟩⟩
  go_wp2_with fail
  refine (HSG.out _ (by repeat (first | exact HS.out | apply Sc.drewN))).mono ?_
  rintro e w' ⟨rfl, ⟨m3, rfl⟩⟩
  go_wp2_with fail
  refine (HF.out _).mono ?_
  rintro e w' ⟨rfl, rfl⟩
  exact ⟨rfl, ⟨rfl, by repeat (first | exact Below.refl _ _ | apply pw_below_drewN)⟩⟩
theorem sc_grown {g : Nat} {s : ByteArray} {i : Int} {v : Value} {w w' : World} {row : Option Nat} (h : Sc w g s i v) (hg : w.grownBy w' row) (hne : some g ≠ row) : Sc w' g s i v := h.keep (hg.block g h.lt hne)
theorem own_ne {w : World} {g : Nat} {e : TypeId} {size n : Nat} {v : Value} {xs : List Value} (h : w.ownsRow (g + 1) e size v n xs) {k : Nat} (hk : k ≤ g) : some k ≠ v.ownBlock := by
  intro e2
  have := (h.lt k e2.symm).1
  omega
theorem below_grown {g : Nat} {a w w' : World} {row : Option Nat} (h : Below g a w) (hg : w.grownBy w' row) (hgl : g ≤ w.heap.size) (hr : ∀ k, row = some k → g ≤ k) : Below g a w' :=
  h.trans ⟨hg.os, hg.tape, hg.output, hg.size, fun k hk => hg.block k (by omega) (fun e => absurd (hr k e.symm) (by omega))⟩
theorem sc_alloc {g : Nat} {s : ByteArray} {i : Int} {v : Value} {w : World} (h : Sc w g s i v) (o : Obj) : Sc (w.alloc o) g s i v := h.keep (Below.heap_alloc w o g h.lt)
theorem set_own {w : World} {g j : Nat} {e : TypeId} {size n : Nat} {v : Value} {xs : List Value} (h : w.ownsRow (g + 1) e size v n xs) (u : Value) : (w.setCell ⟨g, j, none⟩ u).ownsRow (g + 1) e size v n xs := by
  refine ⟨h.1, ?_⟩
  rcases h.2 with hn | ⟨b, cap, cur, rfl, hb, hg, rest⟩
  · exact .inl hn
  · refine .inr ⟨b, cap, cur, rfl, hb, ?_, rest⟩
    rw [Below.heap_setCell _ _ _ _ (by simp; omega)]
    exact hg
theorem infTok : (Tryz.prog.info? 98).map (fun i => (i.zero, i.size, i.bytes)) = some (some (.agg #[(.int .i64 0), (.int .i64 0), (.string ⟨#[]⟩), (.int .i64 0), (.int .i64 0)]), 5, 48) := by kernel_rfl
set_option maxRecDepth 100000 in
set_option maxHeartbeats 8000000 in
theorem tok_sign (g : Nat) (s : ByteArray) (i m : Nat) (v : Value) (n : Nat) (xs : List Value) (w : World) (hS : Sc w g s i v) (hO : w.ownsRow (g + 1) 98 5 v n xs) (hn : n < 2000) (hi : i < s.size) (hs : s.size ≤ 8000)
    (hd : isDigit s[i] = false) (hl : isLetter s[i] = false) (hz : signN (s.data.toList.drop i) = m) (hm : 1 ≤ m) (hmi : i + m ≤ s.size) :
    Calls Tryz.prog 125 #[.pointer (some ⟨g, 0, none⟩)] w (TokPost g s w (i + m) (n + 1) (xs ++ tokCells ⟨3, i, s.extract i (i + m), ⟨0, 0⟩⟩)) := by
  have hu49 := Tryz.underlying142
  have hu32 := Tryz.underlying98
  have hu30 := Tryz.underlying96
  obtain ⟨i0, hi0, hz0, hz1, hz2⟩ := info_parts infTok
  obtain ⟨A, cap, hv⟩ := own_slice hO
  have hv0 := hv
  subst hv
  obtain ⟨c0, c1, c2, f0, f1, f2⟩ := hS.cells
  have hltz : (i : Int) < (s.size : Int) := by omega
  have hj0 : (0 : Int) ≤ (i : Int) := by omega
  have hnz : ((n : Int) == 2000) = false := by rw [beq_eq_false_iff_ne]; omega
  have hmz : ((m : Int) == 0) = false := by rw [beq_eq_false_iff_ne]; omega
  have hm8 : i + m ≤ 8000 := by omega
  have HD := Lib.hid (digit_ok s[i])
  have HL := Lib.hid (letter_ok s[i])
  have HSG := Lib.hid (fun W (h : Sc W g s i (.slice A n cap)) => sign_ok g s i (.slice A n cap) W h hi hs)
  rw [hd] at HD
  rw [hl] at HL
  rw [hz] at HSG
  have HS := Aside0.mk hS
  have HO := Aside0.mk hO
  clear hS hO hd hl hz
  go_enter Tryz.func125, Tryz.ntmps125
  go_wp2_with fail
  go_quiet (fail)
  go_wp2_with fail
  refine (HD.out _).mono ?_
  rintro e w' ⟨rfl, ⟨m1, rfl⟩⟩
  go_wp2_with fail
  refine (HL.out _).mono ?_
  rintro e w' ⟨rfl, ⟨m2, rfl⟩⟩
  go_wp2_with fail
  refine (HSG.out _ (by repeat (first | exact HS.out | apply Sc.drewN))).mono ?_
  rintro e w' ⟨rfl, ⟨m3, rfl⟩⟩
  go_wp2_with fail
  refine gen_world (fun w' => Sc w' g s ((i + m : Nat) : Int) (.slice A n cap) ∧ Only g w w') ⟨by repeat (first | exact HS.out | apply Sc.drewN | refine Sc.at_eq (i := (i : Int)) ?_ (by omega)), by repeat (first | exact Only.refl _ _ | apply Only.drewN | apply Only.set)⟩ ?_
  rintro W ⟨hS2, hOn⟩
  clear c0 c1 c2 f0 f1 f2
  have hO2 := hOn.own HO.out
  obtain ⟨c0, c1, c2, f0, f1, f2⟩ := hS2.cells
  have hgl := hS2.lt
  have hne := own_ne hO2 (Nat.le_refl g)
  have im0 : (0 : Int) ≤ ((i + m : Nat) : Int) := by omega
  have im1 : ((i + m : Nat) : Int) ≤ (s.size : Int) := by omega
  have im2 : (i : Int) ≤ ((i + m : Nat) : Int) := by omega
  generalize hj : i + m = j at *
  have hS3 := hS2.drew
  have hO3 : W.drew.ownsRow (g + 1) 98 5 (.slice A n cap) n xs := hO2.drew
  have hB3 : Below g w W.drew := hOn.below.drew
  refine start_ (n := 22) (S := fun w' => w'.cell? ⟨g, 0, none⟩ = some (.string s) ∧ w'.cell? ⟨g, 1, none⟩ = some (.int .i64 (j : Int)) ∧ w'.cell? ⟨g, 2, none⟩ = some (.slice A n cap)) (ds := [21]) #[false, false, false, false, false, false, false, false, false, false, false, false, false, false, false, false, false, false, false, false, false, false] (by kernel_rfl) rfl rfl ⟨hS3.cells.1, hS3.cells.2.1, hS3.cells.2.2.1⟩ ?_
  intro hHeld
  generalize W.drew = Wd at hHeld hS3 hO3 hB3 ⊢
  have hgd := hS3.lt
  refine pure_ (i := 0) (N := some 54) (v := ?_) (a' := ?_) #[true, false, false, false, false, false, false, false, false, false, false, false, false, false, false, false, false, false, false, false, false, false] rfl rfl (by kernel_rfl) (fun _ _ _ h => h) (Or.inl ⟨by rfl, ?_⟩) ?_ ?_
  rotate_left
  · intro w'
    go_simp
    with_reducible rfl
  rotate_left
  · simp only [Act.put, List.setIfInBounds_toArray, List.set_cons_zero, List.set_cons_succ, i64_w, i32_w]
    rfl
  refine pure_ (i := 1) (N := some 55) (v := ?_) (a' := ?_) #[true, true, false, false, false, false, false, false, false, false, false, false, false, false, false, false, false, false, false, false, false, false] rfl rfl (by kernel_rfl) (fun _ _ _ h => h) (Or.inl ⟨by rfl, ?_⟩) ?_ ?_
  rotate_left
  · intro w'
    go_simp
    with_reducible rfl
  rotate_left
  · simp only [Act.put, List.setIfInBounds_toArray, List.set_cons_zero, List.set_cons_succ, i64_w, i32_w]
    rfl
  refine pure_ (i := 2) (N := some 56) (v := ?_) (a' := ?_) #[true, true, true, false, false, false, false, false, false, false, false, false, false, false, false, false, false, false, false, false, false, false] rfl rfl (by kernel_rfl) (fun _ _ _ h => h) (Or.inl ⟨by rfl, ?_⟩) ?_ ?_
  rotate_left
  · intro w'
    go_simp
    with_reducible rfl
  rotate_left
  · simp only [Act.put, List.setIfInBounds_toArray, List.set_cons_zero, List.set_cons_succ, i64_w, i32_w]
    rfl
  refine pure_ (i := 3) (N := some 57) (v := ?_) (a' := ?_) #[true, true, true, true, false, false, false, false, false, false, false, false, false, false, false, false, false, false, false, false, false, false] rfl rfl (by kernel_rfl) (fun _ _ _ h => h) (Or.inl ⟨by rfl, ?_⟩) ?_ ?_
  rotate_left
  · intro w'
    go_simp
    with_reducible rfl
  rotate_left
  · simp only [Act.put, List.setIfInBounds_toArray, List.set_cons_zero, List.set_cons_succ, i64_w, i32_w]
    rfl
  refine pure_ (i := 5) (N := some 59) (v := ?_) (a' := ?_) #[true, true, true, true, false, true, false, false, false, false, false, false, false, false, false, false, false, false, false, false, false, false] rfl rfl (by kernel_rfl) (fun _ _ _ h => h) (Or.inl ⟨by rfl, ?_⟩) ?_ ?_
  rotate_left
  · intro w'
    go_simp
    with_reducible rfl
  rotate_left
  · simp only [Act.put, List.setIfInBounds_toArray, List.set_cons_zero, List.set_cons_succ, i64_w, i32_w]
    rfl
  refine pure_ (i := 6) (N := some 60) (v := ?_) (a' := ?_) #[true, true, true, true, false, true, true, false, false, false, false, false, false, false, false, false, false, false, false, false, false, false] rfl rfl (by kernel_rfl) (fun _ _ _ h => h) (Or.inl ⟨by rfl, ?_⟩) ?_ ?_
  rotate_left
  · intro w'
    go_simp
    with_reducible rfl
  rotate_left
  · simp only [Act.put, List.setIfInBounds_toArray, List.set_cons_zero, List.set_cons_succ, i64_w, i32_w]
    rfl
  refine pure_ (i := 7) (N := some 61) (v := ?_) (a' := ?_) #[true, true, true, true, false, true, true, true, false, false, false, false, false, false, false, false, false, false, false, false, false, false] rfl rfl (by kernel_rfl) (fun _ _ _ h => h) (Or.inl ⟨by rfl, ?_⟩) ?_ ?_
  rotate_left
  · intro w'
    go_simp
    with_reducible rfl
  rotate_left
  · simp only [Act.put, List.setIfInBounds_toArray, List.set_cons_zero, List.set_cons_succ, i64_w, i32_w]
    rfl
  refine pure_ (i := 8) (N := some 62) (v := ?_) (a' := ?_) #[true, true, true, true, false, true, true, true, true, false, false, false, false, false, false, false, false, false, false, false, false, false] rfl rfl (by kernel_rfl) (fun _ _ _ h => h) (Or.inl ⟨by rfl, ?_⟩) ?_ ?_
  rotate_left
  · intro w'
    go_simp
    with_reducible rfl
  rotate_left
  · simp only [Act.put, List.setIfInBounds_toArray, List.set_cons_zero, List.set_cons_succ, i64_w, i32_w]
    rfl
  refine pure_ (i := 10) (N := some 64) (v := ?_) (a' := ?_) #[true, true, true, true, false, true, true, true, true, false, true, false, false, false, false, false, false, false, false, false, false, false] rfl rfl (by kernel_rfl) (fun _ _ _ h => h) (Or.inl ⟨by rfl, ?_⟩) ?_ ?_
  rotate_left
  · intro w'
    go_simp
    with_reducible rfl
  rotate_left
  · simp only [Act.put, List.setIfInBounds_toArray, List.set_cons_zero, List.set_cons_succ, i64_w, i32_w]
    rfl
  refine pure_ (i := 11) (N := some 65) (v := ?_) (a' := ?_) #[true, true, true, true, false, true, true, true, true, false, true, true, false, false, false, false, false, false, false, false, false, false] rfl rfl (by kernel_rfl) (fun _ _ _ h => h) (Or.inl ⟨by rfl, ?_⟩) ?_ ?_
  rotate_left
  · intro w'
    go_simp
    with_reducible rfl
  rotate_left
  · simp only [Act.put, List.setIfInBounds_toArray, List.set_cons_zero, List.set_cons_succ, i64_w, i32_w]
    rfl
  refine pure_ (i := 12) (N := some 66) (v := ?_) (a' := ?_) #[true, true, true, true, false, true, true, true, true, false, true, true, true, false, false, false, false, false, false, false, false, false] rfl rfl (by kernel_rfl) (fun _ _ _ h => h) (Or.inl ⟨by rfl, ?_⟩) ?_ ?_
  rotate_left
  · intro w'
    go_simp
    with_reducible rfl
  rotate_left
  · simp only [Act.put, List.setIfInBounds_toArray, List.set_cons_zero, List.set_cons_succ, i64_w, i32_w]
    rfl
  refine pure_ (i := 13) (N := some 67) (v := ?_) (a' := ?_) #[true, true, true, true, false, true, true, true, true, false, true, true, true, true, false, false, false, false, false, false, false, false] rfl rfl (by kernel_rfl) (fun _ _ _ h => h) (Or.inl ⟨by rfl, ?_⟩) ?_ ?_
  rotate_left
  · intro w'
    go_simp
    with_reducible rfl
  rotate_left
  · simp only [Act.put, List.setIfInBounds_toArray, List.set_cons_zero, List.set_cons_succ, i64_w, i32_w]
    rfl
  refine take_ (i := 4) (N := some 58) (v := ?_) (a' := ?_) #[true, true, true, true, true, true, true, true, true, false, true, true, true, true, false, false, false, false, false, false, false, false] rfl rfl (by kernel_rfl) (fun _ _ _ h => h) (Or.inl ⟨by rfl, ?_⟩) hHeld ?_ ?_
  rotate_left
  · rintro w' ⟨s0, s1, s2⟩
    go_simp
    with_reducible rfl
  rotate_left
  · simp only [Act.put, List.setIfInBounds_toArray, List.set_cons_zero, List.set_cons_succ, i64_w, i32_w]
    rfl
  refine take_ (i := 9) (N := some 63) (v := ?_) (a' := ?_) #[true, true, true, true, true, true, true, true, true, true, true, true, true, true, false, false, false, false, false, false, false, false] rfl rfl (by kernel_rfl) (fun _ _ _ h => h) (Or.inl ⟨by rfl, ?_⟩) hHeld ?_ ?_
  rotate_left
  · rintro w' ⟨s0, s1, s2⟩
    go_simp
    with_reducible rfl
  rotate_left
  · simp only [Act.put, List.setIfInBounds_toArray, List.set_cons_zero, List.set_cons_succ, i64_w, i32_w]
    rfl
  refine take_ (i := 14) (N := some 68) (v := ?_) (a' := ?_) #[true, true, true, true, true, true, true, true, true, true, true, true, true, true, true, false, false, false, false, false, false, false] rfl rfl (by kernel_rfl) (fun _ _ _ h => h) (Or.inl ⟨by rfl, ?_⟩) hHeld ?_ ?_
  rotate_left
  · rintro w' ⟨s0, s1, s2⟩
    go_simp
    with_reducible rfl
  rotate_left
  · simp only [Act.put, List.setIfInBounds_toArray, List.set_cons_zero, List.set_cons_succ, i64_w, i32_w]
    rfl
  refine pure_ (i := 15) (N := some 69) (v := ?_) (a' := ?_) #[true, true, true, true, true, true, true, true, true, true, true, true, true, true, true, true, false, false, false, false, false, false] rfl rfl (by kernel_rfl) (fun _ _ _ h => h) (Or.inl ⟨by rfl, ?_⟩) ?_ ?_
  rotate_left
  · intro w'
    go_simp
    with_reducible rfl
  rotate_left
  · simp only [Act.put, List.setIfInBounds_toArray, List.set_cons_zero, List.set_cons_succ, i64_w, i32_w]
    rfl
  refine pure_ (i := 16) (N := some 70) (v := ?_) (a' := ?_) #[true, true, true, true, true, true, true, true, true, true, true, true, true, true, true, true, true, false, false, false, false, false] rfl rfl (by kernel_rfl) (fun _ _ _ h => h) (Or.inl ⟨by rfl, ?_⟩) ?_ ?_
  rotate_left
  · intro w'
    go_simp
    with_reducible rfl
  rotate_left
  · simp only [Act.put, List.setIfInBounds_toArray, List.set_cons_zero, List.set_cons_succ, i64_w, i32_w]
    rfl
  refine one_ (i := 17) (N := some 71) #[true, true, true, true, true, true, true, true, true, true, true, true, true, true, true, true, true, true, false, false, false, false] rfl rfl (by kernel_rfl) (by decide) (fun K hK => ?_)
  refine value_ (w1 := ?_) (v := ?_) (by rfl) rfl ?_ ?_
  rotate_left 2
  · go_simp
    constructor
    · rfl
    · rfl
  refine hK.out _ _ ⟨(sc_alloc hS3 _).cells.1, (sc_alloc hS3 _).cells.2.1, (sc_alloc hS3 _).cells.2.2.1⟩ (fun hHeld => ?_)
  clear hK K
  refine norm_ (a' := ?_) ?_ ?_
  rotate_left
  · show Act.put _ (some 71) _ = _
    simp only [Act.put, List.setIfInBounds_toArray, List.set_cons_zero, List.set_cons_succ, i64_w, i32_w]
    rfl
  refine one_ (i := 18) (N := some 72) #[true, true, true, true, true, true, true, true, true, true, true, true, true, true, true, true, true, true, true, false, false, false] rfl rfl (by kernel_rfl) (by decide) (fun K hK => ?_)
  refine step_append_lies _ (by rfl) _ _ _ (by rfl) (g + 1) 98 i0 _ 5 48 Tryz.underlying92 hi0 hz0 hz1 hz2 rfl (by omega) (.slice A n cap) n xs (by rfl) (hO3.alloc _) ⟨Wd.heap.size, 0, none⟩ 1 1 [.int .i64 3, .int .i64 i, .string (s.extract i j), .int .i64 0, .int .i64 0] (by rfl) (by rfl) (World.news_of_block (cs := #[.int .i64 3, .int .i64 i, .string (s.extract i j), .int .i64 0, .int .i64 0]) (t := 98) (fr := (0, 0)) (heap_alloc_new Wd _)) (by simp [Value.oneCell']) (by omega) (by unfold maxLen; omega) (by omega) (by simp; omega) (Wd.heap.size + 1) (by simp) ?_
  intro gg cap2 w1 hown1 hgrow hat hlt
  refine hK.out _ _ ⟨(sc_grown (sc_alloc hS3 _) hgrow hne).cells.1, (sc_grown (sc_alloc hS3 _) hgrow hne).cells.2.1, (sc_grown (sc_alloc hS3 _) hgrow hne).cells.2.2.1⟩ (fun hHeld => ?_)
  clear hK K
  refine norm_ (a' := ?_) ?_ ?_
  rotate_left
  · show Act.put _ (some 72) _ = _
    simp only [Act.put, List.setIfInBounds_toArray, List.set_cons_zero, List.set_cons_succ, i64_w, i32_w]
    rfl
  refine pure_ (i := 19) (N := some 73) (v := ?_) (a' := ?_) #[true, true, true, true, true, true, true, true, true, true, true, true, true, true, true, true, true, true, true, true, false, false] rfl rfl (by kernel_rfl) (fun _ _ _ h => h) (Or.inl ⟨by rfl, ?_⟩) ?_ ?_
  rotate_left
  · intro w'
    go_simp
    with_reducible rfl
  rotate_left
  · simp only [Act.put, List.setIfInBounds_toArray, List.set_cons_zero, List.set_cons_succ, i64_w, i32_w]
    rfl
  refine pure_ (i := 20) (N := some 74) (v := ?_) (a' := ?_) #[true, true, true, true, true, true, true, true, true, true, true, true, true, true, true, true, true, true, true, true, true, false] rfl rfl (by kernel_rfl) (fun _ _ _ h => h) (Or.inl ⟨by rfl, ?_⟩) ?_ ?_
  rotate_left
  · intro w'
    go_simp
    with_reducible rfl
  rotate_left
  · simp only [Act.put, List.setIfInBounds_toArray, List.set_cons_zero, List.set_cons_succ, i64_w, i32_w]
    rfl
  refine last_ (i := 21) (N := none) #[true, true, true, true, true, true, true, true, true, true, true, true, true, true, true, true, true, true, true, true, true, true] rfl rfl (by kernel_rfl) (by decide) (fun K hK => ?_)
  have kc := (sc_grown (sc_alloc hS3 _) hgrow hne).cells.2.2.1
  have kf := (sc_grown (sc_alloc hS3 _) hgrow hne).cells.2.2.2.2.2
  refine skip_ (w1 := ?_) (by rfl) rfl ?_ ?_
  rotate_left
  · go_simp
    rfl
  refine hK.out _ _ ?_
  clear hK K
  refine done_ (by kernel_rfl) ?_
  have hS4 := sc_grown (sc_alloc hS3 _) hgrow hne
  go_wp2_with fail
  (try simp only [Exit.inBlock, Exit.then])
  refine bodyPost_ret (results_none rfl _ _ _) rfl ⟨rfl, ⟨_, hS4.out_ _, ?_⟩, ?_⟩
  · exact (set_own hown1 _)
  · exact (below_grown (hB3.alloc (by omega) _) hgrow (by simp; omega) (fun k hk => by have := (hO3.lt k hk).1; omega)).setCell (Nat.le_refl _) _
/-- How many bytes of a word, or of a number, a list begins with. -/
def partLen (num : Bool) (l : List UInt8) : Nat := (l.takeWhile (partB num)).length
theorem partLen_in (num : Bool) (s : ByteArray) (j : Nat) (h : j < s.size) (hp : partB num s[j] = true) : (j + 1) + partLen num (s.data.toList.drop (j + 1)) = j + partLen num (s.data.toList.drop j) := by
  unfold partLen
  rw [drop_cons s j h, List.takeWhile_cons, if_pos hp, List.length_cons]
  omega
theorem partLen_out (num : Bool) (s : ByteArray) (j : Nat) (h : ¬ ∃ h : j < s.size, partB num s[j] = true) : j + partLen num (s.data.toList.drop j) = j := by
  unfold partLen
  by_cases hj : j < s.size
  · have hp : partB num s[j] = false := by
      cases hb : partB num s[j] with
      | false => rfl
      | true => exact absurd ⟨hj, hb⟩ h
    rw [drop_cons s j hj, List.takeWhile_cons, hp]
    simp
  · rw [List.drop_of_length_le (by simp; omega)]
    simp
theorem partLen_le (num : Bool) (s : ByteArray) (i : Nat) (h : i ≤ s.size) : i + partLen num (s.data.toList.drop i) ≤ s.size := by
  have h1 := (List.takeWhile_sublist (l := s.data.toList.drop i) (partB num)).length_le
  have h2 : (s.data.toList.drop i).length = s.size - i := by simp
  unfold partLen
  omega
set_option maxRecDepth 100000 in
set_option maxHeartbeats 8000000 in
theorem tok_long (g : Nat) (s : ByteArray) (i : Nat) (v : Value) (n : Nat) (xs : List Value) (w : World) (hS : Sc w g s i v) (hO : w.ownsRow (g + 1) 98 5 v n xs) (hn : n < 2000) (hi : i < s.size) (hs : s.size ≤ 8000)
    (hd : isDigit s[i] = false) (hl : isLetter s[i] = true) (hm : 16 < partLen false (s.data.toList.drop i)) :
    Calls Tryz.prog 125 #[.pointer (some ⟨g, 0, none⟩)] w (TokFail g w 2 i) := by
  have HF := Lib.hid (fail_ok (some ⟨g, 0, none⟩) 2 i)
  have HM := Aside0.mk hm
  clear hm
  have hu49 := Tryz.underlying142
  have hu32 := Tryz.underlying98
  have hu30 := Tryz.underlying96
  obtain ⟨i0, hi0, hz0, hz1, hz2⟩ := info_parts infTok
  obtain ⟨A, cap, hv⟩ := own_slice hO
  subst hv
  obtain ⟨c0, c1, c2, f0, f1, f2⟩ := hS.cells
  have hltz : (i : Int) < (s.size : Int) := by omega
  have hj0 : (0 : Int) ≤ (i : Int) := by omega
  have hnz : ((n : Int) == 2000) = false := by rw [beq_eq_false_iff_ne]; omega
  have HD := Lib.hid (digit_ok s[i])
  rw [hd] at HD
  have HL := Lib.hid (letter_ok s[i])
  rw [hl] at HL
  have HS := Aside0.mk hS
  have HO := Aside0.mk hO
  clear hS hO hd hl
  go_enter Tryz.func125, Tryz.ntmps125
  go_wp2_with fail
  go_quiet (fail)
  go_wp2_with fail
  refine (HD.out _).mono ?_
  rintro e w' ⟨rfl, ⟨m1, rfl⟩⟩
  go_wp2_with fail
  refine (HL.out _).mono ?_
  rintro e w' ⟨rfl, ⟨m2, rfl⟩⟩
  go_wp2_with fail
  go_loopg [75] (s.size - i) (fun k v75 wr => ∃ j : Nat, k = s.size - j ∧ i ≤ j ∧ j ≤ s.size ∧ Aside0 (j + partLen false (s.data.toList.drop j) = i + partLen false (s.data.toList.drop i)) ∧ Aside0 (Sc wr g s j (.slice A n cap)) ∧ Aside0 (Only g w wr))
  case atStart => exact ⟨i, rfl, by omega, by omega, ⟨rfl⟩, ⟨by repeat (first | exact HS.out | apply Sc.drewN)⟩, ⟨by repeat (first | exact Only.refl _ _ | apply Only.drewN)⟩⟩
  case round =>
    obtain ⟨j, rfl, hij, hjs, HE, HS2, HOn⟩ := hrel
    clear c0 c1 c2 f0 f1 f2
    obtain ⟨c0, c1, c2, f0, f1, f2⟩ := HS2.out.cells
    have hjz : (0 : Int) ≤ (j : Int) := by omega
    by_cases hc : ∃ h : j < s.size, partB false s[j] = true
    · obtain ⟨hlt, hp⟩ := hc
      have hltz2 : (j : Int) < (s.size : Int) := by omega
      have hltd : decide ((j : Int) < (s.size : Int)) = true := decide_eq_true hltz2
      have HP := Lib.hid (part_ok s[j] false)
      rw [hp] at HP
      have HN := Aside0.mk ((partLen_in false s j hlt hp).trans HE.out)
      clear hp HE
      go_wp2_with fail
      go_quiet ((go_at_call 156; exact quiet_first HP.out))
      go_wp2_with fail
      go_roundg (s.size - (j + 1))
      case measure => omega
      case rel => exact ⟨j + 1, rfl, by omega, by omega, HN, ⟨by show Sc _ g s ((j : Int) + 1) _; repeat (first | exact HS2.out | apply Sc.drewN | apply Sc.drew | refine Sc.at_ (i := (j : Int)) ?_ _)⟩, ⟨by repeat (first | exact HOn.out | apply Only.drewN | apply Only.set)⟩⟩
    · have hE : i + partLen false (s.data.toList.drop i) = j := HE.out.symm.trans (partLen_out false s j hc)
      have hx : (¬ j < s.size) ∨ ∃ h : j < s.size, partB false s[j] = false := by
        by_cases hlt : j < s.size
        · refine .inr ⟨hlt, ?_⟩
          cases hb : partB false s[j] with
          | false => rfl
          | true => exact absurd ⟨hlt, hb⟩ hc
        · exact .inl hlt
      have HE2 := Aside0.mk hE
      clear hE HE hc
      rcases hx with hx | ⟨hlt, hp⟩
      · have hltd : decide ((j : Int) < (s.size : Int)) = false := decide_eq_false (by omega)
        have hltn : decide (j < s.size) = false := decide_eq_false (by omega)
        have hlong : decide ((16 : Int) < (j : Int) - (i : Int)) = true := decide_eq_true (by have := HM.out; have := HE2.out; omega)
        clear hx
        go_wp2_with fail
        go_quiet (fail)
        go_wp2_with fail
        refine (HF.out _).mono ?_
        rintro e w' ⟨rfl, rfl⟩
        exact ⟨rfl, ⟨rfl, by repeat (first | exact HOn.out.below | apply pw_below_drewN)⟩⟩
      · have hltz2 : (j : Int) < (s.size : Int) := by omega
        have hltd : decide ((j : Int) < (s.size : Int)) = true := decide_eq_true hltz2
        have HP := Lib.hid (part_ok s[j] false)
        rw [hp] at HP
        have hlong : decide ((16 : Int) < (j : Int) - (i : Int)) = true := decide_eq_true (by have := HM.out; have := HE2.out; omega)
        clear hp
        go_wp2_with fail
        go_quiet ((go_at_call 156; exact quiet_first HP.out))
        go_wp2_with fail
        refine (HF.out _).mono ?_
        rintro e w' ⟨rfl, rfl⟩
        exact ⟨rfl, ⟨rfl, by repeat (first | exact HOn.out.below | apply pw_below_drewN)⟩⟩
set_option maxRecDepth 100000 in
set_option maxHeartbeats 8000000 in
theorem tok_word (g : Nat) (s : ByteArray) (i : Nat) (v : Value) (n : Nat) (xs : List Value) (w : World) (hS : Sc w g s i v) (hO : w.ownsRow (g + 1) 98 5 v n xs) (hn : n < 2000) (hi : i < s.size) (hs : s.size ≤ 8000)
    (hd : isDigit s[i] = false) (hl : isLetter s[i] = true) (hm : partLen false (s.data.toList.drop i) ≤ 16) :
    Calls Tryz.prog 125 #[.pointer (some ⟨g, 0, none⟩)] w (TokPost g s w (i + partLen false (s.data.toList.drop i)) (n + 1) (xs ++ tokCells ⟨1, i, s.extract i (i + partLen false (s.data.toList.drop i)), ⟨0, 0⟩⟩)) := by
  have HM := Aside0.mk hm
  clear hm
  have hu49 := Tryz.underlying142
  have hu32 := Tryz.underlying98
  have hu30 := Tryz.underlying96
  obtain ⟨i0, hi0, hz0, hz1, hz2⟩ := info_parts infTok
  obtain ⟨A, cap, hv⟩ := own_slice hO
  subst hv
  obtain ⟨c0, c1, c2, f0, f1, f2⟩ := hS.cells
  have hltz : (i : Int) < (s.size : Int) := by omega
  have hj0 : (0 : Int) ≤ (i : Int) := by omega
  have hnz : ((n : Int) == 2000) = false := by rw [beq_eq_false_iff_ne]; omega
  have HD := Lib.hid (digit_ok s[i])
  rw [hd] at HD
  have HL := Lib.hid (letter_ok s[i])
  rw [hl] at HL
  have HS := Aside0.mk hS
  have HO := Aside0.mk hO
  clear hS hO hd hl
  go_enter Tryz.func125, Tryz.ntmps125
  go_wp2_with fail
  go_quiet (fail)
  go_wp2_with fail
  refine (HD.out _).mono ?_
  rintro e w' ⟨rfl, ⟨m1, rfl⟩⟩
  go_wp2_with fail
  refine (HL.out _).mono ?_
  rintro e w' ⟨rfl, ⟨m2, rfl⟩⟩
  go_wp2_with fail
  go_loopg [75] (s.size - i) (fun k v75 wr => ∃ j : Nat, k = s.size - j ∧ i ≤ j ∧ j ≤ s.size ∧ Aside0 (j + partLen false (s.data.toList.drop j) = i + partLen false (s.data.toList.drop i)) ∧ Aside0 (Sc wr g s j (.slice A n cap)) ∧ Aside0 (Only g w wr))
  case atStart => exact ⟨i, rfl, by omega, by omega, ⟨rfl⟩, ⟨by repeat (first | exact HS.out | apply Sc.drewN)⟩, ⟨by repeat (first | exact Only.refl _ _ | apply Only.drewN)⟩⟩
  case round =>
    obtain ⟨j, rfl, hij, hjs, HE, HS2, HOn⟩ := hrel
    clear c0 c1 c2 f0 f1 f2
    obtain ⟨c0, c1, c2, f0, f1, f2⟩ := HS2.out.cells
    have hjz : (0 : Int) ≤ (j : Int) := by omega
    by_cases hc : ∃ h : j < s.size, partB false s[j] = true
    · obtain ⟨hlt, hp⟩ := hc
      have hltz2 : (j : Int) < (s.size : Int) := by omega
      have hltd : decide ((j : Int) < (s.size : Int)) = true := decide_eq_true hltz2
      have HP := Lib.hid (part_ok s[j] false)
      rw [hp] at HP
      have HN := Aside0.mk ((partLen_in false s j hlt hp).trans HE.out)
      clear hp HE
      go_wp2_with fail
      go_quiet ((go_at_call 156; exact quiet_first HP.out))
      go_wp2_with fail
      go_roundg (s.size - (j + 1))
      case measure => omega
      case rel => exact ⟨j + 1, rfl, by omega, by omega, HN, ⟨by show Sc _ g s ((j : Int) + 1) _; repeat (first | exact HS2.out | apply Sc.drewN | apply Sc.drew | refine Sc.at_ (i := (j : Int)) ?_ _)⟩, ⟨by repeat (first | exact HOn.out | apply Only.drewN | apply Only.set)⟩⟩
    · have hE : i + partLen false (s.data.toList.drop i) = j := HE.out.symm.trans (partLen_out false s j hc)
      have hx : (¬ j < s.size) ∨ ∃ h : j < s.size, partB false s[j] = false := by
        by_cases hlt : j < s.size
        · refine .inr ⟨hlt, ?_⟩
          cases hb : partB false s[j] with
          | false => rfl
          | true => exact absurd ⟨hlt, hb⟩ hc
        · exact .inl hlt
      have HE2 := Aside0.mk hE
      clear hE HE hc
      rcases hx with hx | ⟨hlt, hp⟩
      · have hltd : decide ((j : Int) < (s.size : Int)) = false := decide_eq_false (by omega)
        have hltn : decide (j < s.size) = false := decide_eq_false (by omega)
        have hlong : decide ((16 : Int) < (j : Int) - (i : Int)) = false := decide_eq_false (by have := HM.out; have := HE2.out; omega)
        clear hx
        go_wp2_with fail
        go_quiet (fail)
        go_wp2_with fail
        refine gen_world (fun w' => Sc w' g s (j : Int) (.slice A n cap) ∧ Only g w w') ⟨by repeat (first | exact HS2.out | apply Sc.drewN), by repeat (first | exact HOn.out | apply Only.drewN)⟩ ?_
        rintro W ⟨hS2, hOn⟩
        clear c0 c1 c2 f0 f1 f2
        have hO2 := hOn.own HO.out
        obtain ⟨c0, c1, c2, f0, f1, f2⟩ := hS2.cells
        have hgl := hS2.lt
        have hne := own_ne hO2 (Nat.le_refl g)
        have im1 : (j : Int) ≤ (s.size : Int) := by omega
        have im2 : (i : Int) ≤ (j : Int) := by omega
        have hS3 := hS2.drew
        have hO3 : W.drew.ownsRow (g + 1) 98 5 (.slice A n cap) n xs := hO2.drew
        have hB3 : Below g w W.drew := hOn.below.drew
        refine start_ (n := 22) (S := fun w' => w'.cell? ⟨g, 0, none⟩ = some (.string s) ∧ w'.cell? ⟨g, 1, none⟩ = some (.int .i64 (j : Int)) ∧ w'.cell? ⟨g, 2, none⟩ = some (.slice A n cap)) (ds := [21]) #[false, false, false, false, false, false, false, false, false, false, false, false, false, false, false, false, false, false, false, false, false, false] (by kernel_rfl) rfl rfl ⟨hS3.cells.1, hS3.cells.2.1, hS3.cells.2.2.1⟩ ?_
        intro hHeld
        generalize W.drew = Wd at hHeld hS3 hO3 hB3 ⊢
        have hgd := hS3.lt
        refine pure_ (i := 0) (N := some 117) (v := ?_) (a' := ?_) #[true, false, false, false, false, false, false, false, false, false, false, false, false, false, false, false, false, false, false, false, false, false] rfl rfl (by kernel_rfl) (fun _ _ _ h => h) (Or.inl ⟨by rfl, ?_⟩) ?_ ?_
        rotate_left
        · intro w'
          go_simp
          with_reducible rfl
        rotate_left
        · simp only [Act.put, List.setIfInBounds_toArray, List.set_cons_zero, List.set_cons_succ, i64_w, i32_w]
          rfl
        refine pure_ (i := 1) (N := some 118) (v := ?_) (a' := ?_) #[true, true, false, false, false, false, false, false, false, false, false, false, false, false, false, false, false, false, false, false, false, false] rfl rfl (by kernel_rfl) (fun _ _ _ h => h) (Or.inl ⟨by rfl, ?_⟩) ?_ ?_
        rotate_left
        · intro w'
          go_simp
          with_reducible rfl
        rotate_left
        · simp only [Act.put, List.setIfInBounds_toArray, List.set_cons_zero, List.set_cons_succ, i64_w, i32_w]
          rfl
        refine pure_ (i := 2) (N := some 119) (v := ?_) (a' := ?_) #[true, true, true, false, false, false, false, false, false, false, false, false, false, false, false, false, false, false, false, false, false, false] rfl rfl (by kernel_rfl) (fun _ _ _ h => h) (Or.inl ⟨by rfl, ?_⟩) ?_ ?_
        rotate_left
        · intro w'
          go_simp
          with_reducible rfl
        rotate_left
        · simp only [Act.put, List.setIfInBounds_toArray, List.set_cons_zero, List.set_cons_succ, i64_w, i32_w]
          rfl
        refine pure_ (i := 3) (N := some 120) (v := ?_) (a' := ?_) #[true, true, true, true, false, false, false, false, false, false, false, false, false, false, false, false, false, false, false, false, false, false] rfl rfl (by kernel_rfl) (fun _ _ _ h => h) (Or.inl ⟨by rfl, ?_⟩) ?_ ?_
        rotate_left
        · intro w'
          go_simp
          with_reducible rfl
        rotate_left
        · simp only [Act.put, List.setIfInBounds_toArray, List.set_cons_zero, List.set_cons_succ, i64_w, i32_w]
          rfl
        refine pure_ (i := 5) (N := some 122) (v := ?_) (a' := ?_) #[true, true, true, true, false, true, false, false, false, false, false, false, false, false, false, false, false, false, false, false, false, false] rfl rfl (by kernel_rfl) (fun _ _ _ h => h) (Or.inl ⟨by rfl, ?_⟩) ?_ ?_
        rotate_left
        · intro w'
          go_simp
          with_reducible rfl
        rotate_left
        · simp only [Act.put, List.setIfInBounds_toArray, List.set_cons_zero, List.set_cons_succ, i64_w, i32_w]
          rfl
        refine pure_ (i := 6) (N := some 123) (v := ?_) (a' := ?_) #[true, true, true, true, false, true, true, false, false, false, false, false, false, false, false, false, false, false, false, false, false, false] rfl rfl (by kernel_rfl) (fun _ _ _ h => h) (Or.inl ⟨by rfl, ?_⟩) ?_ ?_
        rotate_left
        · intro w'
          go_simp
          with_reducible rfl
        rotate_left
        · simp only [Act.put, List.setIfInBounds_toArray, List.set_cons_zero, List.set_cons_succ, i64_w, i32_w]
          rfl
        refine pure_ (i := 7) (N := some 124) (v := ?_) (a' := ?_) #[true, true, true, true, false, true, true, true, false, false, false, false, false, false, false, false, false, false, false, false, false, false] rfl rfl (by kernel_rfl) (fun _ _ _ h => h) (Or.inl ⟨by rfl, ?_⟩) ?_ ?_
        rotate_left
        · intro w'
          go_simp
          with_reducible rfl
        rotate_left
        · simp only [Act.put, List.setIfInBounds_toArray, List.set_cons_zero, List.set_cons_succ, i64_w, i32_w]
          rfl
        refine pure_ (i := 8) (N := some 125) (v := ?_) (a' := ?_) #[true, true, true, true, false, true, true, true, true, false, false, false, false, false, false, false, false, false, false, false, false, false] rfl rfl (by kernel_rfl) (fun _ _ _ h => h) (Or.inl ⟨by rfl, ?_⟩) ?_ ?_
        rotate_left
        · intro w'
          go_simp
          with_reducible rfl
        rotate_left
        · simp only [Act.put, List.setIfInBounds_toArray, List.set_cons_zero, List.set_cons_succ, i64_w, i32_w]
          rfl
        refine pure_ (i := 10) (N := some 127) (v := ?_) (a' := ?_) #[true, true, true, true, false, true, true, true, true, false, true, false, false, false, false, false, false, false, false, false, false, false] rfl rfl (by kernel_rfl) (fun _ _ _ h => h) (Or.inl ⟨by rfl, ?_⟩) ?_ ?_
        rotate_left
        · intro w'
          go_simp
          with_reducible rfl
        rotate_left
        · simp only [Act.put, List.setIfInBounds_toArray, List.set_cons_zero, List.set_cons_succ, i64_w, i32_w]
          rfl
        refine pure_ (i := 11) (N := some 128) (v := ?_) (a' := ?_) #[true, true, true, true, false, true, true, true, true, false, true, true, false, false, false, false, false, false, false, false, false, false] rfl rfl (by kernel_rfl) (fun _ _ _ h => h) (Or.inl ⟨by rfl, ?_⟩) ?_ ?_
        rotate_left
        · intro w'
          go_simp
          with_reducible rfl
        rotate_left
        · simp only [Act.put, List.setIfInBounds_toArray, List.set_cons_zero, List.set_cons_succ, i64_w, i32_w]
          rfl
        refine pure_ (i := 12) (N := some 129) (v := ?_) (a' := ?_) #[true, true, true, true, false, true, true, true, true, false, true, true, true, false, false, false, false, false, false, false, false, false] rfl rfl (by kernel_rfl) (fun _ _ _ h => h) (Or.inl ⟨by rfl, ?_⟩) ?_ ?_
        rotate_left
        · intro w'
          go_simp
          with_reducible rfl
        rotate_left
        · simp only [Act.put, List.setIfInBounds_toArray, List.set_cons_zero, List.set_cons_succ, i64_w, i32_w]
          rfl
        refine pure_ (i := 13) (N := some 130) (v := ?_) (a' := ?_) #[true, true, true, true, false, true, true, true, true, false, true, true, true, true, false, false, false, false, false, false, false, false] rfl rfl (by kernel_rfl) (fun _ _ _ h => h) (Or.inl ⟨by rfl, ?_⟩) ?_ ?_
        rotate_left
        · intro w'
          go_simp
          with_reducible rfl
        rotate_left
        · simp only [Act.put, List.setIfInBounds_toArray, List.set_cons_zero, List.set_cons_succ, i64_w, i32_w]
          rfl
        refine take_ (i := 4) (N := some 121) (v := ?_) (a' := ?_) #[true, true, true, true, true, true, true, true, true, false, true, true, true, true, false, false, false, false, false, false, false, false] rfl rfl (by kernel_rfl) (fun _ _ _ h => h) (Or.inl ⟨by rfl, ?_⟩) hHeld ?_ ?_
        rotate_left
        · rintro w' ⟨s0, s1, s2⟩
          go_simp
          with_reducible rfl
        rotate_left
        · simp only [Act.put, List.setIfInBounds_toArray, List.set_cons_zero, List.set_cons_succ, i64_w, i32_w]
          rfl
        refine take_ (i := 9) (N := some 126) (v := ?_) (a' := ?_) #[true, true, true, true, true, true, true, true, true, true, true, true, true, true, false, false, false, false, false, false, false, false] rfl rfl (by kernel_rfl) (fun _ _ _ h => h) (Or.inl ⟨by rfl, ?_⟩) hHeld ?_ ?_
        rotate_left
        · rintro w' ⟨s0, s1, s2⟩
          go_simp
          with_reducible rfl
        rotate_left
        · simp only [Act.put, List.setIfInBounds_toArray, List.set_cons_zero, List.set_cons_succ, i64_w, i32_w]
          rfl
        refine take_ (i := 14) (N := some 131) (v := ?_) (a' := ?_) #[true, true, true, true, true, true, true, true, true, true, true, true, true, true, true, false, false, false, false, false, false, false] rfl rfl (by kernel_rfl) (fun _ _ _ h => h) (Or.inl ⟨by rfl, ?_⟩) hHeld ?_ ?_
        rotate_left
        · rintro w' ⟨s0, s1, s2⟩
          go_simp
          with_reducible rfl
        rotate_left
        · simp only [Act.put, List.setIfInBounds_toArray, List.set_cons_zero, List.set_cons_succ, i64_w, i32_w]
          rfl
        refine pure_ (i := 15) (N := some 132) (v := ?_) (a' := ?_) #[true, true, true, true, true, true, true, true, true, true, true, true, true, true, true, true, false, false, false, false, false, false] rfl rfl (by kernel_rfl) (fun _ _ _ h => h) (Or.inl ⟨by rfl, ?_⟩) ?_ ?_
        rotate_left
        · intro w'
          go_simp
          with_reducible rfl
        rotate_left
        · simp only [Act.put, List.setIfInBounds_toArray, List.set_cons_zero, List.set_cons_succ, i64_w, i32_w]
          rfl
        refine pure_ (i := 16) (N := some 133) (v := ?_) (a' := ?_) #[true, true, true, true, true, true, true, true, true, true, true, true, true, true, true, true, true, false, false, false, false, false] rfl rfl (by kernel_rfl) (fun _ _ _ h => h) (Or.inl ⟨by rfl, ?_⟩) ?_ ?_
        rotate_left
        · intro w'
          go_simp
          with_reducible rfl
        rotate_left
        · simp only [Act.put, List.setIfInBounds_toArray, List.set_cons_zero, List.set_cons_succ, i64_w, i32_w]
          rfl
        refine one_ (i := 17) (N := some 134) #[true, true, true, true, true, true, true, true, true, true, true, true, true, true, true, true, true, true, false, false, false, false] rfl rfl (by kernel_rfl) (by decide) (fun K hK => ?_)
        refine value_ (w1 := ?_) (v := ?_) (by rfl) rfl ?_ ?_
        rotate_left 2
        · go_simp
          constructor
          · rfl
          · rfl
        refine hK.out _ _ ⟨(sc_alloc hS3 _).cells.1, (sc_alloc hS3 _).cells.2.1, (sc_alloc hS3 _).cells.2.2.1⟩ (fun hHeld => ?_)
        clear hK K
        refine norm_ (a' := ?_) ?_ ?_
        rotate_left
        · show Act.put _ (some 134) _ = _
          simp only [Act.put, List.setIfInBounds_toArray, List.set_cons_zero, List.set_cons_succ, i64_w, i32_w]
          rfl
        refine one_ (i := 18) (N := some 135) #[true, true, true, true, true, true, true, true, true, true, true, true, true, true, true, true, true, true, true, false, false, false] rfl rfl (by kernel_rfl) (by decide) (fun K hK => ?_)
        refine step_append_lies _ (by rfl) _ _ _ (by rfl) (g + 1) 98 i0 _ 5 48 Tryz.underlying92 hi0 hz0 hz1 hz2 rfl (by omega) (.slice A n cap) n xs (by rfl) (hO3.alloc _) ⟨Wd.heap.size, 0, none⟩ 1 1 [.int .i64 1, .int .i64 i, .string (s.extract i j), .int .i64 0, .int .i64 0] (by rfl) (by rfl) (World.news_of_block (cs := #[.int .i64 1, .int .i64 i, .string (s.extract i j), .int .i64 0, .int .i64 0]) (t := 98) (fr := (0, 0)) (heap_alloc_new Wd _)) (by simp [Value.oneCell']) (by omega) (by unfold maxLen; omega) (by omega) (by simp; omega) (Wd.heap.size + 1) (by simp) ?_
        intro gg cap2 w1 hown1 hgrow hat hlt
        refine hK.out _ _ ⟨(sc_grown (sc_alloc hS3 _) hgrow hne).cells.1, (sc_grown (sc_alloc hS3 _) hgrow hne).cells.2.1, (sc_grown (sc_alloc hS3 _) hgrow hne).cells.2.2.1⟩ (fun hHeld => ?_)
        clear hK K
        refine norm_ (a' := ?_) ?_ ?_
        rotate_left
        · show Act.put _ (some 135) _ = _
          simp only [Act.put, List.setIfInBounds_toArray, List.set_cons_zero, List.set_cons_succ, i64_w, i32_w]
          rfl
        refine pure_ (i := 19) (N := some 136) (v := ?_) (a' := ?_) #[true, true, true, true, true, true, true, true, true, true, true, true, true, true, true, true, true, true, true, true, false, false] rfl rfl (by kernel_rfl) (fun _ _ _ h => h) (Or.inl ⟨by rfl, ?_⟩) ?_ ?_
        rotate_left
        · intro w'
          go_simp
          with_reducible rfl
        rotate_left
        · simp only [Act.put, List.setIfInBounds_toArray, List.set_cons_zero, List.set_cons_succ, i64_w, i32_w]
          rfl
        refine pure_ (i := 20) (N := some 137) (v := ?_) (a' := ?_) #[true, true, true, true, true, true, true, true, true, true, true, true, true, true, true, true, true, true, true, true, true, false] rfl rfl (by kernel_rfl) (fun _ _ _ h => h) (Or.inl ⟨by rfl, ?_⟩) ?_ ?_
        rotate_left
        · intro w'
          go_simp
          with_reducible rfl
        rotate_left
        · simp only [Act.put, List.setIfInBounds_toArray, List.set_cons_zero, List.set_cons_succ, i64_w, i32_w]
          rfl
        refine last_ (i := 21) (N := none) #[true, true, true, true, true, true, true, true, true, true, true, true, true, true, true, true, true, true, true, true, true, true] rfl rfl (by kernel_rfl) (by decide) (fun K hK => ?_)
        have kc := (sc_grown (sc_alloc hS3 _) hgrow hne).cells.2.2.1
        have kf := (sc_grown (sc_alloc hS3 _) hgrow hne).cells.2.2.2.2.2
        refine skip_ (w1 := ?_) (by rfl) rfl ?_ ?_
        rotate_left
        · go_simp
          rfl
        refine hK.out _ _ ?_
        clear hK K
        refine done_ (by kernel_rfl) ?_
        have hS4 := sc_grown (sc_alloc hS3 _) hgrow hne
        go_wp2_with fail
        (try simp only [Exit.inBlock, Exit.then])
        refine bodyPost_ret (results_none rfl _ _ _) rfl ?_
        rw [HE2.out]
        refine ⟨rfl, ⟨_, hS4.out_ _, ?_⟩, ?_⟩
        · exact (set_own hown1 _)
        · exact (below_grown (hB3.alloc (by omega) _) hgrow (by simp; omega) (fun k hk => by have := (hO3.lt k hk).1; omega)).setCell (Nat.le_refl _) _
      · have hltz2 : (j : Int) < (s.size : Int) := by omega
        have hltd : decide ((j : Int) < (s.size : Int)) = true := decide_eq_true hltz2
        have HP := Lib.hid (part_ok s[j] false)
        rw [hp] at HP
        have hlong : decide ((16 : Int) < (j : Int) - (i : Int)) = false := decide_eq_false (by have := HM.out; have := HE2.out; omega)
        clear hp
        go_wp2_with fail
        go_quiet ((go_at_call 156; exact quiet_first HP.out))
        go_wp2_with fail
        refine gen_world (fun w' => Sc w' g s (j : Int) (.slice A n cap) ∧ Only g w w') ⟨by repeat (first | exact HS2.out | apply Sc.drewN), by repeat (first | exact HOn.out | apply Only.drewN)⟩ ?_
        rintro W ⟨hS2, hOn⟩
        clear c0 c1 c2 f0 f1 f2
        have hO2 := hOn.own HO.out
        obtain ⟨c0, c1, c2, f0, f1, f2⟩ := hS2.cells
        have hgl := hS2.lt
        have hne := own_ne hO2 (Nat.le_refl g)
        have im1 : (j : Int) ≤ (s.size : Int) := by omega
        have im2 : (i : Int) ≤ (j : Int) := by omega
        have hS3 := hS2.drew
        have hO3 : W.drew.ownsRow (g + 1) 98 5 (.slice A n cap) n xs := hO2.drew
        have hB3 : Below g w W.drew := hOn.below.drew
        refine start_ (n := 22) (S := fun w' => w'.cell? ⟨g, 0, none⟩ = some (.string s) ∧ w'.cell? ⟨g, 1, none⟩ = some (.int .i64 (j : Int)) ∧ w'.cell? ⟨g, 2, none⟩ = some (.slice A n cap)) (ds := [21]) #[false, false, false, false, false, false, false, false, false, false, false, false, false, false, false, false, false, false, false, false, false, false] (by kernel_rfl) rfl rfl ⟨hS3.cells.1, hS3.cells.2.1, hS3.cells.2.2.1⟩ ?_
        intro hHeld
        generalize W.drew = Wd at hHeld hS3 hO3 hB3 ⊢
        have hgd := hS3.lt
        refine pure_ (i := 0) (N := some 117) (v := ?_) (a' := ?_) #[true, false, false, false, false, false, false, false, false, false, false, false, false, false, false, false, false, false, false, false, false, false] rfl rfl (by kernel_rfl) (fun _ _ _ h => h) (Or.inl ⟨by rfl, ?_⟩) ?_ ?_
        rotate_left
        · intro w'
          go_simp
          with_reducible rfl
        rotate_left
        · simp only [Act.put, List.setIfInBounds_toArray, List.set_cons_zero, List.set_cons_succ, i64_w, i32_w]
          rfl
        refine pure_ (i := 1) (N := some 118) (v := ?_) (a' := ?_) #[true, true, false, false, false, false, false, false, false, false, false, false, false, false, false, false, false, false, false, false, false, false] rfl rfl (by kernel_rfl) (fun _ _ _ h => h) (Or.inl ⟨by rfl, ?_⟩) ?_ ?_
        rotate_left
        · intro w'
          go_simp
          with_reducible rfl
        rotate_left
        · simp only [Act.put, List.setIfInBounds_toArray, List.set_cons_zero, List.set_cons_succ, i64_w, i32_w]
          rfl
        refine pure_ (i := 2) (N := some 119) (v := ?_) (a' := ?_) #[true, true, true, false, false, false, false, false, false, false, false, false, false, false, false, false, false, false, false, false, false, false] rfl rfl (by kernel_rfl) (fun _ _ _ h => h) (Or.inl ⟨by rfl, ?_⟩) ?_ ?_
        rotate_left
        · intro w'
          go_simp
          with_reducible rfl
        rotate_left
        · simp only [Act.put, List.setIfInBounds_toArray, List.set_cons_zero, List.set_cons_succ, i64_w, i32_w]
          rfl
        refine pure_ (i := 3) (N := some 120) (v := ?_) (a' := ?_) #[true, true, true, true, false, false, false, false, false, false, false, false, false, false, false, false, false, false, false, false, false, false] rfl rfl (by kernel_rfl) (fun _ _ _ h => h) (Or.inl ⟨by rfl, ?_⟩) ?_ ?_
        rotate_left
        · intro w'
          go_simp
          with_reducible rfl
        rotate_left
        · simp only [Act.put, List.setIfInBounds_toArray, List.set_cons_zero, List.set_cons_succ, i64_w, i32_w]
          rfl
        refine pure_ (i := 5) (N := some 122) (v := ?_) (a' := ?_) #[true, true, true, true, false, true, false, false, false, false, false, false, false, false, false, false, false, false, false, false, false, false] rfl rfl (by kernel_rfl) (fun _ _ _ h => h) (Or.inl ⟨by rfl, ?_⟩) ?_ ?_
        rotate_left
        · intro w'
          go_simp
          with_reducible rfl
        rotate_left
        · simp only [Act.put, List.setIfInBounds_toArray, List.set_cons_zero, List.set_cons_succ, i64_w, i32_w]
          rfl
        refine pure_ (i := 6) (N := some 123) (v := ?_) (a' := ?_) #[true, true, true, true, false, true, true, false, false, false, false, false, false, false, false, false, false, false, false, false, false, false] rfl rfl (by kernel_rfl) (fun _ _ _ h => h) (Or.inl ⟨by rfl, ?_⟩) ?_ ?_
        rotate_left
        · intro w'
          go_simp
          with_reducible rfl
        rotate_left
        · simp only [Act.put, List.setIfInBounds_toArray, List.set_cons_zero, List.set_cons_succ, i64_w, i32_w]
          rfl
        refine pure_ (i := 7) (N := some 124) (v := ?_) (a' := ?_) #[true, true, true, true, false, true, true, true, false, false, false, false, false, false, false, false, false, false, false, false, false, false] rfl rfl (by kernel_rfl) (fun _ _ _ h => h) (Or.inl ⟨by rfl, ?_⟩) ?_ ?_
        rotate_left
        · intro w'
          go_simp
          with_reducible rfl
        rotate_left
        · simp only [Act.put, List.setIfInBounds_toArray, List.set_cons_zero, List.set_cons_succ, i64_w, i32_w]
          rfl
        refine pure_ (i := 8) (N := some 125) (v := ?_) (a' := ?_) #[true, true, true, true, false, true, true, true, true, false, false, false, false, false, false, false, false, false, false, false, false, false] rfl rfl (by kernel_rfl) (fun _ _ _ h => h) (Or.inl ⟨by rfl, ?_⟩) ?_ ?_
        rotate_left
        · intro w'
          go_simp
          with_reducible rfl
        rotate_left
        · simp only [Act.put, List.setIfInBounds_toArray, List.set_cons_zero, List.set_cons_succ, i64_w, i32_w]
          rfl
        refine pure_ (i := 10) (N := some 127) (v := ?_) (a' := ?_) #[true, true, true, true, false, true, true, true, true, false, true, false, false, false, false, false, false, false, false, false, false, false] rfl rfl (by kernel_rfl) (fun _ _ _ h => h) (Or.inl ⟨by rfl, ?_⟩) ?_ ?_
        rotate_left
        · intro w'
          go_simp
          with_reducible rfl
        rotate_left
        · simp only [Act.put, List.setIfInBounds_toArray, List.set_cons_zero, List.set_cons_succ, i64_w, i32_w]
          rfl
        refine pure_ (i := 11) (N := some 128) (v := ?_) (a' := ?_) #[true, true, true, true, false, true, true, true, true, false, true, true, false, false, false, false, false, false, false, false, false, false] rfl rfl (by kernel_rfl) (fun _ _ _ h => h) (Or.inl ⟨by rfl, ?_⟩) ?_ ?_
        rotate_left
        · intro w'
          go_simp
          with_reducible rfl
        rotate_left
        · simp only [Act.put, List.setIfInBounds_toArray, List.set_cons_zero, List.set_cons_succ, i64_w, i32_w]
          rfl
        refine pure_ (i := 12) (N := some 129) (v := ?_) (a' := ?_) #[true, true, true, true, false, true, true, true, true, false, true, true, true, false, false, false, false, false, false, false, false, false] rfl rfl (by kernel_rfl) (fun _ _ _ h => h) (Or.inl ⟨by rfl, ?_⟩) ?_ ?_
        rotate_left
        · intro w'
          go_simp
          with_reducible rfl
        rotate_left
        · simp only [Act.put, List.setIfInBounds_toArray, List.set_cons_zero, List.set_cons_succ, i64_w, i32_w]
          rfl
        refine pure_ (i := 13) (N := some 130) (v := ?_) (a' := ?_) #[true, true, true, true, false, true, true, true, true, false, true, true, true, true, false, false, false, false, false, false, false, false] rfl rfl (by kernel_rfl) (fun _ _ _ h => h) (Or.inl ⟨by rfl, ?_⟩) ?_ ?_
        rotate_left
        · intro w'
          go_simp
          with_reducible rfl
        rotate_left
        · simp only [Act.put, List.setIfInBounds_toArray, List.set_cons_zero, List.set_cons_succ, i64_w, i32_w]
          rfl
        refine take_ (i := 4) (N := some 121) (v := ?_) (a' := ?_) #[true, true, true, true, true, true, true, true, true, false, true, true, true, true, false, false, false, false, false, false, false, false] rfl rfl (by kernel_rfl) (fun _ _ _ h => h) (Or.inl ⟨by rfl, ?_⟩) hHeld ?_ ?_
        rotate_left
        · rintro w' ⟨s0, s1, s2⟩
          go_simp
          with_reducible rfl
        rotate_left
        · simp only [Act.put, List.setIfInBounds_toArray, List.set_cons_zero, List.set_cons_succ, i64_w, i32_w]
          rfl
        refine take_ (i := 9) (N := some 126) (v := ?_) (a' := ?_) #[true, true, true, true, true, true, true, true, true, true, true, true, true, true, false, false, false, false, false, false, false, false] rfl rfl (by kernel_rfl) (fun _ _ _ h => h) (Or.inl ⟨by rfl, ?_⟩) hHeld ?_ ?_
        rotate_left
        · rintro w' ⟨s0, s1, s2⟩
          go_simp
          with_reducible rfl
        rotate_left
        · simp only [Act.put, List.setIfInBounds_toArray, List.set_cons_zero, List.set_cons_succ, i64_w, i32_w]
          rfl
        refine take_ (i := 14) (N := some 131) (v := ?_) (a' := ?_) #[true, true, true, true, true, true, true, true, true, true, true, true, true, true, true, false, false, false, false, false, false, false] rfl rfl (by kernel_rfl) (fun _ _ _ h => h) (Or.inl ⟨by rfl, ?_⟩) hHeld ?_ ?_
        rotate_left
        · rintro w' ⟨s0, s1, s2⟩
          go_simp
          with_reducible rfl
        rotate_left
        · simp only [Act.put, List.setIfInBounds_toArray, List.set_cons_zero, List.set_cons_succ, i64_w, i32_w]
          rfl
        refine pure_ (i := 15) (N := some 132) (v := ?_) (a' := ?_) #[true, true, true, true, true, true, true, true, true, true, true, true, true, true, true, true, false, false, false, false, false, false] rfl rfl (by kernel_rfl) (fun _ _ _ h => h) (Or.inl ⟨by rfl, ?_⟩) ?_ ?_
        rotate_left
        · intro w'
          go_simp
          with_reducible rfl
        rotate_left
        · simp only [Act.put, List.setIfInBounds_toArray, List.set_cons_zero, List.set_cons_succ, i64_w, i32_w]
          rfl
        refine pure_ (i := 16) (N := some 133) (v := ?_) (a' := ?_) #[true, true, true, true, true, true, true, true, true, true, true, true, true, true, true, true, true, false, false, false, false, false] rfl rfl (by kernel_rfl) (fun _ _ _ h => h) (Or.inl ⟨by rfl, ?_⟩) ?_ ?_
        rotate_left
        · intro w'
          go_simp
          with_reducible rfl
        rotate_left
        · simp only [Act.put, List.setIfInBounds_toArray, List.set_cons_zero, List.set_cons_succ, i64_w, i32_w]
          rfl
        refine one_ (i := 17) (N := some 134) #[true, true, true, true, true, true, true, true, true, true, true, true, true, true, true, true, true, true, false, false, false, false] rfl rfl (by kernel_rfl) (by decide) (fun K hK => ?_)
        refine value_ (w1 := ?_) (v := ?_) (by rfl) rfl ?_ ?_
        rotate_left 2
        · go_simp
          constructor
          · rfl
          · rfl
        refine hK.out _ _ ⟨(sc_alloc hS3 _).cells.1, (sc_alloc hS3 _).cells.2.1, (sc_alloc hS3 _).cells.2.2.1⟩ (fun hHeld => ?_)
        clear hK K
        refine norm_ (a' := ?_) ?_ ?_
        rotate_left
        · show Act.put _ (some 134) _ = _
          simp only [Act.put, List.setIfInBounds_toArray, List.set_cons_zero, List.set_cons_succ, i64_w, i32_w]
          rfl
        refine one_ (i := 18) (N := some 135) #[true, true, true, true, true, true, true, true, true, true, true, true, true, true, true, true, true, true, true, false, false, false] rfl rfl (by kernel_rfl) (by decide) (fun K hK => ?_)
        refine step_append_lies _ (by rfl) _ _ _ (by rfl) (g + 1) 98 i0 _ 5 48 Tryz.underlying92 hi0 hz0 hz1 hz2 rfl (by omega) (.slice A n cap) n xs (by rfl) (hO3.alloc _) ⟨Wd.heap.size, 0, none⟩ 1 1 [.int .i64 1, .int .i64 i, .string (s.extract i j), .int .i64 0, .int .i64 0] (by rfl) (by rfl) (World.news_of_block (cs := #[.int .i64 1, .int .i64 i, .string (s.extract i j), .int .i64 0, .int .i64 0]) (t := 98) (fr := (0, 0)) (heap_alloc_new Wd _)) (by simp [Value.oneCell']) (by omega) (by unfold maxLen; omega) (by omega) (by simp; omega) (Wd.heap.size + 1) (by simp) ?_
        intro gg cap2 w1 hown1 hgrow hat hlt
        refine hK.out _ _ ⟨(sc_grown (sc_alloc hS3 _) hgrow hne).cells.1, (sc_grown (sc_alloc hS3 _) hgrow hne).cells.2.1, (sc_grown (sc_alloc hS3 _) hgrow hne).cells.2.2.1⟩ (fun hHeld => ?_)
        clear hK K
        refine norm_ (a' := ?_) ?_ ?_
        rotate_left
        · show Act.put _ (some 135) _ = _
          simp only [Act.put, List.setIfInBounds_toArray, List.set_cons_zero, List.set_cons_succ, i64_w, i32_w]
          rfl
        refine pure_ (i := 19) (N := some 136) (v := ?_) (a' := ?_) #[true, true, true, true, true, true, true, true, true, true, true, true, true, true, true, true, true, true, true, true, false, false] rfl rfl (by kernel_rfl) (fun _ _ _ h => h) (Or.inl ⟨by rfl, ?_⟩) ?_ ?_
        rotate_left
        · intro w'
          go_simp
          with_reducible rfl
        rotate_left
        · simp only [Act.put, List.setIfInBounds_toArray, List.set_cons_zero, List.set_cons_succ, i64_w, i32_w]
          rfl
        refine pure_ (i := 20) (N := some 137) (v := ?_) (a' := ?_) #[true, true, true, true, true, true, true, true, true, true, true, true, true, true, true, true, true, true, true, true, true, false] rfl rfl (by kernel_rfl) (fun _ _ _ h => h) (Or.inl ⟨by rfl, ?_⟩) ?_ ?_
        rotate_left
        · intro w'
          go_simp
          with_reducible rfl
        rotate_left
        · simp only [Act.put, List.setIfInBounds_toArray, List.set_cons_zero, List.set_cons_succ, i64_w, i32_w]
          rfl
        refine last_ (i := 21) (N := none) #[true, true, true, true, true, true, true, true, true, true, true, true, true, true, true, true, true, true, true, true, true, true] rfl rfl (by kernel_rfl) (by decide) (fun K hK => ?_)
        have kc := (sc_grown (sc_alloc hS3 _) hgrow hne).cells.2.2.1
        have kf := (sc_grown (sc_alloc hS3 _) hgrow hne).cells.2.2.2.2.2
        refine skip_ (w1 := ?_) (by rfl) rfl ?_ ?_
        rotate_left
        · go_simp
          rfl
        refine hK.out _ _ ?_
        clear hK K
        refine done_ (by kernel_rfl) ?_
        have hS4 := sc_grown (sc_alloc hS3 _) hgrow hne
        go_wp2_with fail
        (try simp only [Exit.inBlock, Exit.then])
        refine bodyPost_ret (results_none rfl _ _ _) rfl ?_
        rw [HE2.out]
        refine ⟨rfl, ⟨_, hS4.out_ _, ?_⟩, ?_⟩
        · exact (set_own hown1 _)
        · exact (below_grown (hB3.alloc (by omega) _) hgrow (by simp; omega) (fun k hk => by have := (hO3.lt k hk).1; omega)).setCell (Nat.le_refl _) _
end

end Go.Proofs.YthcjocojngochaaGreatDoor.X
