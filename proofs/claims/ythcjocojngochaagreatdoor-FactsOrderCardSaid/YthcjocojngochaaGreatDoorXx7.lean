-- Written by a program of mine (wip/tools/xprint.py) over the kit's print.py: printed functions and hand-proved ones side by side.
import Derived.Test.YthcjocojngochaaGreatDoorXx0
import Derived.Test.YthcjocojngochaaGreatDoorXx5
import Derived.Test.YthcjocojngochaaGreatDoorXx6
namespace Go.Proofs.YthcjocojngochaaGreatDoor.X
open Go.RowKit Go.Proofs.YthcjocojngochaaGreatDoorW.PrintWords Go.Proofs.YthcjocojngochaaGreatDoorW.PrintLast Go.Proofs.YthcjocojngochaaGreatDoorW.PrintMore
attribute [local go_sem] max2_int min2_int max_two min_two max_three min_three max_four min_four   -- for this text's walks alone
set_option linter.unusedVariables false
set_option linter.unusedSimpArgs false

/-! ### lexer_scanner_fail: function 152 -/
-- by hand: (*cohousing/lexer.scanner).fail
section
attribute [local go_sem ↓] Go.wp_at_zero Go.wp_at_succ
theorem take_while_len (p : UInt8 → Bool) : ∀ l : List UInt8, l.take (l.takeWhile p).length = l.takeWhile p
  | [] => rfl
  | b :: l => by
    rw [List.takeWhile_cons]
    split
    · rw [List.length_cons, List.take_succ_cons, take_while_len p l]
    · rfl
theorem mem_take_while (p : UInt8 → Bool) : ∀ (l : List UInt8) (b : UInt8), b ∈ l.takeWhile p → p b = true
  | [], b, h => by cases h
  | c :: l, b, h => by
    rw [List.takeWhile_cons] at h
    split at h
    · rename_i hc
      rcases List.mem_cons.mp h with rfl | h
      · exact hc
      · exact mem_take_while p l b h
    · cases h
theorem use_new {X w2 : World} {B : Nat} {a b : Value} {G : Prop} (hb : Below X.heap.size X w2) (h1 : B < X.heap.size) (c0 : X.cell? ⟨B, 0, none⟩ = some a) (c1 : X.cell? ⟨B, 1, none⟩ = some b) (f0 : X.frozen? ⟨B, 0, none⟩ = false) (f1 : X.frozen? ⟨B, 1, none⟩ = false)
    (k : w2.cell? ⟨B, 0, none⟩ = some a → w2.cell? ⟨B, 1, none⟩ = some b → w2.frozen? ⟨B, 0, none⟩ = false → w2.frozen? ⟨B, 1, none⟩ = false → G) : G :=
  k ((hb.cell (p := ⟨B, 0, none⟩) h1).trans c0) ((hb.cell (p := ⟨B, 1, none⟩) h1).trans c1) ((hb.frozen (p := ⟨B, 0, none⟩) h1).trans f0) ((hb.frozen (p := ⟨B, 1, none⟩) h1).trans f1)
theorem cell_alloc {W : World} {a : Addr} {u : Value} (h : W.cell? a = some u) (o : Obj) : (W.alloc o).cell? a = some u := (World.cell?_of_block (Below.heap_alloc W o a.block (World.block_lt_of_cell? W a h))).trans h
theorem set_new {W w2 : World} {base j : Nat} {e : TypeId} {size n : Nat} {v : Value} {xs : List Value} {u : Value} (h : w2.ownsRow base e size v n xs) (h0 : W.ownsRow base e size v n xs) : (w2.setCell ⟨W.heap.size, j, none⟩ u).ownsRow base e size v n xs := by
  refine ⟨h.1, ?_⟩
  rcases h.2 with hn | ⟨b, cap, cur, rfl, hb2, hg, rest⟩
  · exact .inl hn
  · refine .inr ⟨b, cap, cur, rfl, hb2, ?_, rest⟩
    have := (h0.lt b rfl).2
    rw [Below.heap_setCell _ _ _ _ (by simp; omega)]
    exact hg
theorem own_below {X w2 : World} {base : Nat} {e : TypeId} {size n : Nat} {v : Value} {xs : List Value} (h : X.ownsRow base e size v n xs) (hb : Below X.heap.size X w2) : w2.ownsRow base e size v n xs := by
  refine ⟨h.1, ?_⟩
  rcases h.2 with hn | ⟨b, cap, cur, rfl, hb2, hg, rest⟩
  · exact .inl hn
  · exact .inr ⟨b, cap, cur, rfl, hb2, (hb.block b (Array.getElem?_eq_some_iff.1 hg).1).trans hg, rest⟩
theorem partLen_all (num : Bool) (s : ByteArray) (i : Nat) : ∀ b ∈ (s.extract i (i + partLen num (s.data.toList.drop i))).data.toList, partB num b = true := by
  intro b hb
  rw [ByteArray.data_extract, Array.toList_extract] at hb
  simp only [List.extract] at hb
  rw [show i + partLen num (s.data.toList.drop i) - i = partLen num (s.data.toList.drop i) by omega] at hb
  unfold partLen at hb
  rw [take_while_len] at hb
  exact mem_take_while _ _ _ hb
set_option maxRecDepth 100000 in
set_option maxHeartbeats 8000000 in
theorem tok_badnum (g : Nat) (s : ByteArray) (i : Nat) (v : Value) (n : Nat) (xs : List Value) (w : World) (hS : Sc w g s i v) (hO : w.ownsRow (g + 1) 98 5 v n xs) (hn : n < 2000) (hi : i < s.size) (hs : s.size ≤ 8000)
    (hd : isDigit s[i] = true) (r1 r2 r3 : Int) (hval : ∀ W, Calls Tryz.prog 157 #[.string (s.extract i (i + partLen true (s.data.toList.drop i)))] W fun e w' => e = .returned (.tuple #[.agg #[.int .i64 r1, .int .i64 r2], .int .i64 r3]) ∧ Below W.heap.size W w') (hr : (r3 == 0) = false) :
    Calls Tryz.prog 125 #[.pointer (some ⟨g, 0, none⟩)] w (TokFail g w r3 i) := by
  have HF := Lib.hid (fail_ok (some ⟨g, 0, none⟩) r3 i)
  have HVAL0 := Lib.hid hval
  clear hval
  have hu49 := Tryz.underlying142
  have hu32 := Tryz.underlying98
  have hu30 := Tryz.underlying96
  obtain ⟨i0, hi0, hz0, hz1, hz2⟩ := info_parts infTok
  obtain ⟨A, cap, hv⟩ := own_slice hO
  subst hv
  obtain ⟨c0, c1, c2, f0, f1, f2⟩ := hS.cells
  have hltz : (i : Int) < (s.size : Int) := by omega
  have hj0 : (0 : Int) ≤ (i : Int) := by omega
  have hnz : ((n : Int) == 2000) = false := by rw [beq_eq_false_iff_ne]; omega
  have HD := Lib.hid (digit_ok s[i])
  rw [hd] at HD
  have HS := Aside0.mk hS
  have HO := Aside0.mk hO
  clear hS hO hd
  go_enter Tryz.func125, Tryz.ntmps125
  go_wp2_with fail
  go_quiet (fail)
  go_wp2_with fail
  refine (HD.out _).mono ?_
  rintro e w' ⟨rfl, ⟨m1, rfl⟩⟩
  go_wp2_with fail
  go_loopg [75] (s.size - i) (fun k v75 wr => ∃ j : Nat, k = s.size - j ∧ i ≤ j ∧ j ≤ s.size ∧ Aside0 (j + partLen true (s.data.toList.drop j) = i + partLen true (s.data.toList.drop i)) ∧ Aside0 (Sc wr g s j (.slice A n cap)) ∧ Aside0 (Only g w wr))
  case atStart => exact ⟨i, rfl, by omega, by omega, ⟨rfl⟩, ⟨by repeat (first | exact HS.out | apply Sc.drewN)⟩, ⟨by repeat (first | exact Only.refl _ _ | apply Only.drewN)⟩⟩
  case round =>
    obtain ⟨j, rfl, hij, hjs, HE, HS2, HOn⟩ := hrel
    clear c0 c1 c2 f0 f1 f2
    obtain ⟨c0, c1, c2, f0, f1, f2⟩ := HS2.out.cells
    have hjz : (0 : Int) ≤ (j : Int) := by omega
    by_cases hc : ∃ h : j < s.size, partB true s[j] = true
    · obtain ⟨hlt, hp⟩ := hc
      have hltz2 : (j : Int) < (s.size : Int) := by omega
      have hltd : decide ((j : Int) < (s.size : Int)) = true := decide_eq_true hltz2
      have HP := Lib.hid (part_ok s[j] true)
      rw [hp] at HP
      have HN := Aside0.mk ((partLen_in true s j hlt hp).trans HE.out)
      clear hp HE
      go_wp2_with fail
      go_quiet ((go_at_call 156; exact quiet_first HP.out))
      go_wp2_with fail
      go_roundg (s.size - (j + 1))
      case measure => omega
      case rel => exact ⟨j + 1, rfl, by omega, by omega, HN, ⟨by show Sc _ g s ((j : Int) + 1) _; repeat (first | exact HS2.out | apply Sc.drewN | apply Sc.drew | refine Sc.at_ (i := (j : Int)) ?_ _)⟩, ⟨by repeat (first | exact HOn.out | apply Only.drewN | apply Only.set)⟩⟩
    · have hE : i + partLen true (s.data.toList.drop i) = j := HE.out.symm.trans (partLen_out true s j hc)
      have hx : (¬ j < s.size) ∨ ∃ h : j < s.size, partB true s[j] = false := by
        by_cases hlt : j < s.size
        · refine .inr ⟨hlt, ?_⟩
          cases hb : partB true s[j] with
          | false => rfl
          | true => exact absurd ⟨hlt, hb⟩ hc
        · exact .inl hlt
      have HE2 := Aside0.mk hE
      clear hE HE hc
      rcases hx with hx | ⟨hlt, hp⟩
      · have hltd : decide ((j : Int) < (s.size : Int)) = false := decide_eq_false (by omega)
        have hltn : decide (j < s.size) = false := decide_eq_false (by omega)
        have HVAL : Hid (∀ W, Calls Tryz.prog 157 #[.string (s.extract i j)] W fun e w' => e = .returned (.tuple #[.agg #[.int .i64 r1, .int .i64 r2], .int .i64 r3]) ∧ Below W.heap.size W w') := by rw [← HE2.out]; exact HVAL0
        clear hx
        go_wp2_with fail
        go_quiet (fail)
        go_wp2_with fail
        refine gen_world (fun w' => Sc w' g s (j : Int) (.slice A n cap) ∧ Only g w w') ⟨by repeat (first | exact HS2.out | apply Sc.drewN), by repeat (first | exact HOn.out | apply Only.drewN)⟩ ?_
        rintro W ⟨hS2, hOn⟩
        clear c0 c1 c2 f0 f1 f2
        have hO2 := hOn.own HO.out
        obtain ⟨c0, c1, c2, f0, f1, f2⟩ := hS2.cells
        have hgl := hS2.lt
        have hne := own_ne hO2 (Nat.le_refl g)
        have im1 : (j : Int) ≤ (s.size : Int) := by omega
        have im2 : (i : Int) ≤ (j : Int) := by omega
        have hS3 := hS2.drew
        have hO3 : W.drew.ownsRow (g + 1) 98 5 (.slice A n cap) n xs := hO2.drew
        have hB3 : Below g w W.drew := hOn.below.drew
        have hval := HVAL.out
        have nw0 := World.new_ne W _ c0
        have nw1 := World.new_ne W _ c1
        go_region_held3 (fun w' => w'.cell? ⟨g, 0, none⟩ = some (.string s) ∧ w'.cell? ⟨g, 1, none⟩ = some (.int .i64 (j : Int)))
          (go_keep)
          ((go_at_call 157; refine (hval _).mono ?_; rintro e w2 ⟨rfl, hb⟩; have hq : Sc w2 g s (j : Int) (.slice A n cap) := Sc.keep (by first | exact hS2.drew | exact sc_alloc hS2.drew _) (hb.block g (by simp; omega)); have hbw : Below g w w2 := Below.trans (by first | exact hB3 | exact hB3.alloc (by simp; omega) _) (hb.mono (by simp; omega)); have ho2 : w2.ownsRow (g + 1) 98 5 (.slice A n cap) n xs := own_below (by first | exact hO3 | exact hO3.alloc _) hb; have hz := hb.size; obtain ⟨q0, q1, q2, q3, q4, q5⟩ := hq.cells; have n0 := World.new_ne w2 _ q0; have n1 := World.new_ne w2 _ q1; (try (refine use_new (B := W.heap.size) (a := .int .i64 0) (b := .int .i64 0) hb ?_ ?_ ?_ ?_ ?_ ?_; (· simp; done); (· go_simp; done); (· go_simp; done); (· go_simp; done); (· go_simp; done); intro z0 z1 z2 z3))))
        go_wp2_with fail
        all_goals
          refine (HF.out _).mono ?_
          rintro e w' ⟨rfl, rfl⟩
          exact ⟨rfl, ⟨rfl, by repeat (first | exact hbw | exact hbw.alloc (Nat.le_of_lt hq.lt) _ | refine Below.setCell ?_ (by simp; omega) _)⟩⟩
      · have hltz2 : (j : Int) < (s.size : Int) := by omega
        have hltd : decide ((j : Int) < (s.size : Int)) = true := decide_eq_true hltz2
        have HP := Lib.hid (part_ok s[j] true)
        rw [hp] at HP
        have HVAL : Hid (∀ W, Calls Tryz.prog 157 #[.string (s.extract i j)] W fun e w' => e = .returned (.tuple #[.agg #[.int .i64 r1, .int .i64 r2], .int .i64 r3]) ∧ Below W.heap.size W w') := by rw [← HE2.out]; exact HVAL0
        clear hp
        go_wp2_with fail
        go_quiet ((go_at_call 156; exact quiet_first HP.out))
        go_wp2_with fail
        refine gen_world (fun w' => Sc w' g s (j : Int) (.slice A n cap) ∧ Only g w w') ⟨by repeat (first | exact HS2.out | apply Sc.drewN), by repeat (first | exact HOn.out | apply Only.drewN)⟩ ?_
        rintro W ⟨hS2, hOn⟩
        clear c0 c1 c2 f0 f1 f2
        have hO2 := hOn.own HO.out
        obtain ⟨c0, c1, c2, f0, f1, f2⟩ := hS2.cells
        have hgl := hS2.lt
        have hne := own_ne hO2 (Nat.le_refl g)
        have im1 : (j : Int) ≤ (s.size : Int) := by omega
        have im2 : (i : Int) ≤ (j : Int) := by omega
        have hS3 := hS2.drew
        have hO3 : W.drew.ownsRow (g + 1) 98 5 (.slice A n cap) n xs := hO2.drew
        have hB3 : Below g w W.drew := hOn.below.drew
        have hval := HVAL.out
        have nw0 := World.new_ne W _ c0
        have nw1 := World.new_ne W _ c1
        go_region_held3 (fun w' => w'.cell? ⟨g, 0, none⟩ = some (.string s) ∧ w'.cell? ⟨g, 1, none⟩ = some (.int .i64 (j : Int)))
          (go_keep)
          ((go_at_call 157; refine (hval _).mono ?_; rintro e w2 ⟨rfl, hb⟩; have hq : Sc w2 g s (j : Int) (.slice A n cap) := Sc.keep (by first | exact hS2.drew | exact sc_alloc hS2.drew _) (hb.block g (by simp; omega)); have hbw : Below g w w2 := Below.trans (by first | exact hB3 | exact hB3.alloc (by simp; omega) _) (hb.mono (by simp; omega)); have ho2 : w2.ownsRow (g + 1) 98 5 (.slice A n cap) n xs := own_below (by first | exact hO3 | exact hO3.alloc _) hb; have hz := hb.size; obtain ⟨q0, q1, q2, q3, q4, q5⟩ := hq.cells; have n0 := World.new_ne w2 _ q0; have n1 := World.new_ne w2 _ q1; (try (refine use_new (B := W.heap.size) (a := .int .i64 0) (b := .int .i64 0) hb ?_ ?_ ?_ ?_ ?_ ?_; (· simp; done); (· go_simp; done); (· go_simp; done); (· go_simp; done); (· go_simp; done); intro z0 z1 z2 z3))))
        go_wp2_with fail
        all_goals
          refine (HF.out _).mono ?_
          rintro e w' ⟨rfl, rfl⟩
          exact ⟨rfl, ⟨rfl, by repeat (first | exact hbw | exact hbw.alloc (Nat.le_of_lt hq.lt) _ | refine Below.setCell ?_ (by simp; omega) _)⟩⟩
set_option maxRecDepth 100000 in
set_option maxHeartbeats 8000000 in
theorem tok_num (g : Nat) (s : ByteArray) (i : Nat) (v : Value) (n : Nat) (xs : List Value) (w : World) (hS : Sc w g s i v) (hO : w.ownsRow (g + 1) 98 5 v n xs) (hn : n < 2000) (hi : i < s.size) (hs : s.size ≤ 8000)
    (hd : isDigit s[i] = true) (r1 r2 r3 : Int) (hval : ∀ W, Calls Tryz.prog 157 #[.string (s.extract i (i + partLen true (s.data.toList.drop i)))] W fun e w' => e = .returned (.tuple #[.agg #[.int .i64 r1, .int .i64 r2], .int .i64 r3]) ∧ Below W.heap.size W w') (hr : r3 = 0) :
    Calls Tryz.prog 125 #[.pointer (some ⟨g, 0, none⟩)] w (TokPost g s w (i + partLen true (s.data.toList.drop i)) (n + 1) (xs ++ tokCells ⟨2, i, ⟨#[]⟩, ⟨r1, r2⟩⟩)) := by
  subst hr
  have HVAL0 := Lib.hid hval
  clear hval
  have hu49 := Tryz.underlying142
  have hu32 := Tryz.underlying98
  have hu30 := Tryz.underlying96
  obtain ⟨i0, hi0, hz0, hz1, hz2⟩ := info_parts infTok
  obtain ⟨A, cap, hv⟩ := own_slice hO
  subst hv
  obtain ⟨c0, c1, c2, f0, f1, f2⟩ := hS.cells
  have hltz : (i : Int) < (s.size : Int) := by omega
  have hj0 : (0 : Int) ≤ (i : Int) := by omega
  have hnz : ((n : Int) == 2000) = false := by rw [beq_eq_false_iff_ne]; omega
  have HD := Lib.hid (digit_ok s[i])
  rw [hd] at HD
  have HS := Aside0.mk hS
  have HO := Aside0.mk hO
  clear hS hO hd
  go_enter Tryz.func125, Tryz.ntmps125
  go_wp2_with fail
  go_quiet (fail)
  go_wp2_with fail
  refine (HD.out _).mono ?_
  rintro e w' ⟨rfl, ⟨m1, rfl⟩⟩
  go_wp2_with fail
  go_loopg [75] (s.size - i) (fun k v75 wr => ∃ j : Nat, k = s.size - j ∧ i ≤ j ∧ j ≤ s.size ∧ Aside0 (j + partLen true (s.data.toList.drop j) = i + partLen true (s.data.toList.drop i)) ∧ Aside0 (Sc wr g s j (.slice A n cap)) ∧ Aside0 (Only g w wr))
  case atStart => exact ⟨i, rfl, by omega, by omega, ⟨rfl⟩, ⟨by repeat (first | exact HS.out | apply Sc.drewN)⟩, ⟨by repeat (first | exact Only.refl _ _ | apply Only.drewN)⟩⟩
  case round =>
    obtain ⟨j, rfl, hij, hjs, HE, HS2, HOn⟩ := hrel
    clear c0 c1 c2 f0 f1 f2
    obtain ⟨c0, c1, c2, f0, f1, f2⟩ := HS2.out.cells
    have hjz : (0 : Int) ≤ (j : Int) := by omega
    by_cases hc : ∃ h : j < s.size, partB true s[j] = true
    · obtain ⟨hlt, hp⟩ := hc
      have hltz2 : (j : Int) < (s.size : Int) := by omega
      have hltd : decide ((j : Int) < (s.size : Int)) = true := decide_eq_true hltz2
      have HP := Lib.hid (part_ok s[j] true)
      rw [hp] at HP
      have HN := Aside0.mk ((partLen_in true s j hlt hp).trans HE.out)
      clear hp HE
      go_wp2_with fail
      go_quiet ((go_at_call 156; exact quiet_first HP.out))
      go_wp2_with fail
      go_roundg (s.size - (j + 1))
      case measure => omega
      case rel => exact ⟨j + 1, rfl, by omega, by omega, HN, ⟨by show Sc _ g s ((j : Int) + 1) _; repeat (first | exact HS2.out | apply Sc.drewN | apply Sc.drew | refine Sc.at_ (i := (j : Int)) ?_ _)⟩, ⟨by repeat (first | exact HOn.out | apply Only.drewN | apply Only.set)⟩⟩
    · have hE : i + partLen true (s.data.toList.drop i) = j := HE.out.symm.trans (partLen_out true s j hc)
      have hx : (¬ j < s.size) ∨ ∃ h : j < s.size, partB true s[j] = false := by
        by_cases hlt : j < s.size
        · refine .inr ⟨hlt, ?_⟩
          cases hb : partB true s[j] with
          | false => rfl
          | true => exact absurd ⟨hlt, hb⟩ hc
        · exact .inl hlt
      have HE2 := Aside0.mk hE
      clear hE HE hc
      rcases hx with hx | ⟨hlt, hp⟩
      · have hltd : decide ((j : Int) < (s.size : Int)) = false := decide_eq_false (by omega)
        have hltn : decide (j < s.size) = false := decide_eq_false (by omega)
        have HVAL : Hid (∀ W, Calls Tryz.prog 157 #[.string (s.extract i j)] W fun e w' => e = .returned (.tuple #[.agg #[.int .i64 r1, .int .i64 r2], .int .i64 0]) ∧ Below W.heap.size W w') := by rw [← HE2.out]; exact HVAL0
        clear hx
        go_wp2_with fail
        go_quiet (fail)
        go_wp2_with fail
        refine gen_world (fun w' => Sc w' g s (j : Int) (.slice A n cap) ∧ Only g w w') ⟨by repeat (first | exact HS2.out | apply Sc.drewN), by repeat (first | exact HOn.out | apply Only.drewN)⟩ ?_
        rintro W ⟨hS2, hOn⟩
        clear c0 c1 c2 f0 f1 f2
        have hO2 := hOn.own HO.out
        obtain ⟨c0, c1, c2, f0, f1, f2⟩ := hS2.cells
        have hgl := hS2.lt
        have hne := own_ne hO2 (Nat.le_refl g)
        have im1 : (j : Int) ≤ (s.size : Int) := by omega
        have im2 : (i : Int) ≤ (j : Int) := by omega
        have hS3 := hS2.drew
        have hO3 : W.drew.ownsRow (g + 1) 98 5 (.slice A n cap) n xs := hO2.drew
        have hB3 : Below g w W.drew := hOn.below.drew
        have hval := HVAL.out
        have nw0 := World.new_ne W _ c0
        have nw1 := World.new_ne W _ c1
        go_region_held3 (fun w' => w'.cell? ⟨g, 0, none⟩ = some (.string s) ∧ w'.cell? ⟨g, 1, none⟩ = some (.int .i64 (j : Int)))
          (go_keep)
          ((go_at_call 157; refine (hval _).mono ?_; rintro e w2 ⟨rfl, hb⟩; have hq : Sc w2 g s (j : Int) (.slice A n cap) := Sc.keep (by first | exact hS2.drew | exact sc_alloc hS2.drew _) (hb.block g (by simp; omega)); have hbw : Below g w w2 := Below.trans (by first | exact hB3 | exact hB3.alloc (by simp; omega) _) (hb.mono (by simp; omega)); have ho2 : w2.ownsRow (g + 1) 98 5 (.slice A n cap) n xs := own_below (by first | exact hO3 | exact hO3.alloc _) hb; have hz := hb.size; obtain ⟨q0, q1, q2, q3, q4, q5⟩ := hq.cells; have n0 := World.new_ne w2 _ q0; have n1 := World.new_ne w2 _ q1; (try (refine use_new (B := W.heap.size) (a := .int .i64 0) (b := .int .i64 0) hb ?_ ?_ ?_ ?_ ?_ ?_; (· simp; done); (· go_simp; done); (· go_simp; done); (· go_simp; done); (· go_simp; done); intro z0 z1 z2 z3))))
        go_wp2_with fail
        · refine gen_world (fun w' => Sc w' g s (j : Int) (.slice A n cap) ∧ w'.ownsRow (g + 1) 98 5 (.slice A n cap) n xs ∧ Below g w w' ∧ w'.cell? ⟨w2.heap.size, 0, none⟩ = some (.int .i64 r1) ∧ w'.cell? ⟨w2.heap.size, 1, none⟩ = some (.int .i64 r2) ∧ some w2.heap.size ≠ (Value.slice A n cap).ownBlock) ?_ ?_
          · exact ⟨sc_alloc hq _, ho2.alloc _, by repeat (first | exact hbw | exact hbw.alloc (Nat.le_of_lt hq.lt) _ | refine Below.setCell ?_ (by simp; omega) _), by go_simp, by go_simp, fun e => by have := (ho2.lt _ e.symm).2; simp at this⟩
          rintro W2 ⟨hS2', hO2', hB2', kb0, kb1, hneb⟩
          clear hq q0 q1 q2 q3 q4 q5 n0 n1 nw0 nw1 hb hbw ho2 hz hS3 hO3 hB3 hne hgl c0 c1 c2 f0 f1 f2 hO2 hS2 hOn
          generalize w2.heap.size = b6 at kb0 kb1 hneb ⊢
          obtain ⟨c0, c1, c2, f0, f1, f2⟩ := hS2'.cells
          have hgl := hS2'.lt
          have hne := own_ne hO2' (Nat.le_refl g)
          have hS3 := hS2'.drew
          have hO3 : W2.drew.ownsRow (g + 1) 98 5 (.slice A n cap) n xs := hO2'.drew
          have hB3 : Below g w W2.drew := hB2'.drew
          have kb3 : W2.drew.cell? ⟨b6, 0, none⟩ = some (.int .i64 r1) ∧ W2.drew.cell? ⟨b6, 1, none⟩ = some (.int .i64 r2) := ⟨kb0, kb1⟩
          clear kb0 kb1
          refine start_ (n := 13) (S := fun w' => w'.cell? ⟨g, 2, none⟩ = some (.slice A n cap) ∧ w'.cell? ⟨b6, 0, none⟩ = some (.int .i64 r1) ∧ w'.cell? ⟨b6, 1, none⟩ = some (.int .i64 r2)) (ds := [12]) #[false, false, false, false, false, false, false, false, false, false, false, false, false] (by kernel_rfl) rfl rfl ⟨hS3.cells.2.2.1, kb3.1, kb3.2⟩ ?_
          intro hHeld
          generalize W2.drew = Wd at hHeld hS3 hO3 hB3 kb3 ⊢
          have hgd := hS3.lt
          refine pure_ (i := 0) (N := some 158) (v := ?_) (a' := ?_) #[true, false, false, false, false, false, false, false, false, false, false, false, false] rfl rfl (by kernel_rfl) (fun _ _ _ h => h) (Or.inl ⟨by rfl, ?_⟩) ?_ ?_
          rotate_left
          · intro w'
            go_simp
            with_reducible rfl
          rotate_left
          · simp only [Act.put, List.setIfInBounds_toArray, List.set_cons_zero, List.set_cons_succ, i64_w, i32_w]
            rfl
          refine pure_ (i := 1) (N := some 159) (v := ?_) (a' := ?_) #[true, true, false, false, false, false, false, false, false, false, false, false, false] rfl rfl (by kernel_rfl) (fun _ _ _ h => h) (Or.inl ⟨by rfl, ?_⟩) ?_ ?_
          rotate_left
          · intro w'
            go_simp
            with_reducible rfl
          rotate_left
          · simp only [Act.put, List.setIfInBounds_toArray, List.set_cons_zero, List.set_cons_succ, i64_w, i32_w]
            rfl
          refine pure_ (i := 2) (N := some 160) (v := ?_) (a' := ?_) #[true, true, true, false, false, false, false, false, false, false, false, false, false] rfl rfl (by kernel_rfl) (fun _ _ _ h => h) (Or.inl ⟨by rfl, ?_⟩) ?_ ?_
          rotate_left
          · intro w'
            go_simp
            with_reducible rfl
          rotate_left
          · simp only [Act.put, List.setIfInBounds_toArray, List.set_cons_zero, List.set_cons_succ, i64_w, i32_w]
            rfl
          refine pure_ (i := 3) (N := some 161) (v := ?_) (a' := ?_) #[true, true, true, true, false, false, false, false, false, false, false, false, false] rfl rfl (by kernel_rfl) (fun _ _ _ h => h) (Or.inl ⟨by rfl, ?_⟩) ?_ ?_
          rotate_left
          · intro w'
            go_simp
            with_reducible rfl
          rotate_left
          · simp only [Act.put, List.setIfInBounds_toArray, List.set_cons_zero, List.set_cons_succ, i64_w, i32_w]
            rfl
          refine pure_ (i := 5) (N := some 163) (v := ?_) (a' := ?_) #[true, true, true, true, false, true, false, false, false, false, false, false, false] rfl rfl (by kernel_rfl) (fun _ _ _ h => h) (Or.inl ⟨by rfl, ?_⟩) ?_ ?_
          rotate_left
          · intro w'
            go_simp
            with_reducible rfl
          rotate_left
          · simp only [Act.put, List.setIfInBounds_toArray, List.set_cons_zero, List.set_cons_succ, i64_w, i32_w]
            rfl
          refine take_ (i := 4) (N := some 162) (v := ?_) (a' := ?_) #[true, true, true, true, true, true, false, false, false, false, false, false, false] rfl rfl (by kernel_rfl) (fun _ _ _ h => h) (Or.inl ⟨by rfl, ?_⟩) hHeld ?_ ?_
          rotate_left
          · rintro w' ⟨s0, s1, s2⟩
            go_simp
            with_reducible rfl
          rotate_left
          · simp only [Act.put, List.setIfInBounds_toArray, List.set_cons_zero, List.set_cons_succ, i64_w, i32_w]
            rfl
          refine take_ (i := 6) (N := some 164) (v := ?_) (a' := ?_) #[true, true, true, true, true, true, true, false, false, false, false, false, false] rfl rfl (by kernel_rfl) (fun _ _ _ h => h) (Or.inl ⟨by rfl, ?_⟩) hHeld ?_ ?_
          rotate_left
          · rintro w' ⟨s0, s1, s2⟩
            go_simp
            with_reducible rfl
          rotate_left
          · simp only [Act.put, List.setIfInBounds_toArray, List.set_cons_zero, List.set_cons_succ, i64_w, i32_w]
            rfl
          refine pure_ (i := 7) (N := some 165) (v := ?_) (a' := ?_) #[true, true, true, true, true, true, true, true, false, false, false, false, false] rfl rfl (by kernel_rfl) (fun _ _ _ h => h) (Or.inl ⟨by rfl, ?_⟩) ?_ ?_
          rotate_left
          · intro w'
            go_simp
            with_reducible rfl
          rotate_left
          · simp only [Act.put, List.setIfInBounds_toArray, List.set_cons_zero, List.set_cons_succ, i64_w, i32_w]
            rfl
          refine one_ (i := 8) (N := some 166) #[true, true, true, true, true, true, true, true, true, false, false, false, false] rfl rfl (by kernel_rfl) (by decide) (fun K hK => ?_)
          refine value_ (w1 := ?_) (v := ?_) (by rfl) rfl ?_ ?_
          rotate_left 2
          · go_simp
            constructor
            · rfl
            · rfl
          refine hK.out _ _ ⟨(sc_alloc hS3 _).cells.2.2.1, (cell_alloc kb3.1 _), (cell_alloc kb3.2 _)⟩ (fun hHeld => ?_)
          clear hK K
          refine norm_ (a' := ?_) ?_ ?_
          rotate_left
          · show Act.put _ (some 166) _ = _
            simp only [Act.put, List.setIfInBounds_toArray, List.set_cons_zero, List.set_cons_succ, i64_w, i32_w]
            rfl
          refine one_ (i := 9) (N := some 167) #[true, true, true, true, true, true, true, true, true, true, false, false, false] rfl rfl (by kernel_rfl) (by decide) (fun K hK => ?_)
          refine step_append_lies _ (by rfl) _ _ _ (by rfl) (g + 1) 98 i0 _ 5 48 Tryz.underlying92 hi0 hz0 hz1 hz2 rfl (by omega) (.slice A n cap) n xs (by rfl) (hO3.alloc _) ⟨Wd.heap.size, 0, none⟩ 1 1 [.int .i64 2, .int .i64 i, .string ⟨#[]⟩, .int .i64 r1, .int .i64 r2] (by rfl) (by rfl) (World.news_of_block (cs := #[.int .i64 2, .int .i64 i, .string ⟨#[]⟩, .int .i64 r1, .int .i64 r2]) (t := 98) (fr := (0, 0)) (heap_alloc_new Wd _)) (by simp [Value.oneCell']) (by omega) (by unfold maxLen; omega) (by omega) (by simp; omega) (Wd.heap.size + 1) (by simp) ?_
          intro gg cap2 w1 hown1 hgrow hat hlt
          refine hK.out _ _ ⟨(sc_grown (sc_alloc hS3 _) hgrow hne).cells.2.2.1, (hgrow.cell (cell_alloc kb3.1 _) hneb), (hgrow.cell (cell_alloc kb3.2 _) hneb)⟩ (fun hHeld => ?_)
          clear hK K
          refine norm_ (a' := ?_) ?_ ?_
          rotate_left
          · show Act.put _ (some 167) _ = _
            simp only [Act.put, List.setIfInBounds_toArray, List.set_cons_zero, List.set_cons_succ, i64_w, i32_w]
            rfl
          refine pure_ (i := 10) (N := some 168) (v := ?_) (a' := ?_) #[true, true, true, true, true, true, true, true, true, true, true, false, false] rfl rfl (by kernel_rfl) (fun _ _ _ h => h) (Or.inl ⟨by rfl, ?_⟩) ?_ ?_
          rotate_left
          · intro w'
            go_simp
            with_reducible rfl
          rotate_left
          · simp only [Act.put, List.setIfInBounds_toArray, List.set_cons_zero, List.set_cons_succ, i64_w, i32_w]
            rfl
          refine pure_ (i := 11) (N := some 169) (v := ?_) (a' := ?_) #[true, true, true, true, true, true, true, true, true, true, true, true, false] rfl rfl (by kernel_rfl) (fun _ _ _ h => h) (Or.inl ⟨by rfl, ?_⟩) ?_ ?_
          rotate_left
          · intro w'
            go_simp
            with_reducible rfl
          rotate_left
          · simp only [Act.put, List.setIfInBounds_toArray, List.set_cons_zero, List.set_cons_succ, i64_w, i32_w]
            rfl
          refine last_ (i := 12) (N := none) #[true, true, true, true, true, true, true, true, true, true, true, true, true] rfl rfl (by kernel_rfl) (by decide) (fun K hK => ?_)
          have kc := (sc_grown (sc_alloc hS3 _) hgrow hne).cells.2.2.1
          have kf := (sc_grown (sc_alloc hS3 _) hgrow hne).cells.2.2.2.2.2
          refine skip_ (w1 := ?_) (by rfl) rfl ?_ ?_
          rotate_left
          · go_simp
            rfl
          refine hK.out _ _ ?_
          clear hK K
          refine done_ (by kernel_rfl) ?_
          have hS4 := sc_grown (sc_alloc hS3 _) hgrow hne
          go_wp2_with fail
          (try simp only [Exit.inBlock, Exit.then])
          refine bodyPost_ret (results_none rfl _ _ _) rfl ?_
          rw [HE2.out]
          refine ⟨rfl, ⟨_, hS4.out_ _, ?_⟩, ?_⟩
          · exact (set_own hown1 _)
          · exact (below_grown (hB3.alloc (by omega) _) hgrow (by simp; omega) (fun k hk => by have := (hO3.lt k hk).1; omega)).setCell (Nat.le_refl _) _
        · refine gen_world (fun w' => Sc w' g s (j : Int) (.slice A n cap) ∧ w'.ownsRow (g + 1) 98 5 (.slice A n cap) n xs ∧ Below g w w' ∧ w'.cell? ⟨W.heap.size, 0, none⟩ = some (.int .i64 r1) ∧ w'.cell? ⟨W.heap.size, 1, none⟩ = some (.int .i64 r2) ∧ some W.heap.size ≠ (Value.slice A n cap).ownBlock) ?_ ?_
          · exact ⟨(hq.keep (by rw [Below.heap_setCell _ _ _ _ (by simp; omega), Below.heap_setCell _ _ _ _ (by simp; omega)])), set_new (set_new ho2 (hO2) ) (hO2), by repeat (first | exact hbw | exact hbw.alloc (Nat.le_of_lt hq.lt) _ | refine Below.setCell ?_ (by simp; omega) _), by go_simp, by go_simp, fun e => by have := (hO2.lt _ e.symm).2; simp at this⟩
          rintro W2 ⟨hS2', hO2', hB2', kb0, kb1, hneb⟩
          clear hq q0 q1 q2 q3 q4 q5 n0 n1 nw0 nw1 hb hbw ho2 hz hS3 hO3 hB3 hne hgl c0 c1 c2 f0 f1 f2 hO2 hS2 hOn
          clear z0 z1 z2 z3
          generalize W.heap.size = b6 at kb0 kb1 hneb ⊢
          obtain ⟨c0, c1, c2, f0, f1, f2⟩ := hS2'.cells
          have hgl := hS2'.lt
          have hne := own_ne hO2' (Nat.le_refl g)
          have hS3 := hS2'.drew
          have hO3 : W2.drew.ownsRow (g + 1) 98 5 (.slice A n cap) n xs := hO2'.drew
          have hB3 : Below g w W2.drew := hB2'.drew
          have kb3 : W2.drew.cell? ⟨b6, 0, none⟩ = some (.int .i64 r1) ∧ W2.drew.cell? ⟨b6, 1, none⟩ = some (.int .i64 r2) := ⟨kb0, kb1⟩
          clear kb0 kb1
          refine start_ (n := 13) (S := fun w' => w'.cell? ⟨g, 2, none⟩ = some (.slice A n cap) ∧ w'.cell? ⟨b6, 0, none⟩ = some (.int .i64 r1) ∧ w'.cell? ⟨b6, 1, none⟩ = some (.int .i64 r2)) (ds := [12]) #[false, false, false, false, false, false, false, false, false, false, false, false, false] (by kernel_rfl) rfl rfl ⟨hS3.cells.2.2.1, kb3.1, kb3.2⟩ ?_
          intro hHeld
          generalize W2.drew = Wd at hHeld hS3 hO3 hB3 kb3 ⊢
          have hgd := hS3.lt
          refine pure_ (i := 0) (N := some 158) (v := ?_) (a' := ?_) #[true, false, false, false, false, false, false, false, false, false, false, false, false] rfl rfl (by kernel_rfl) (fun _ _ _ h => h) (Or.inl ⟨by rfl, ?_⟩) ?_ ?_
          rotate_left
          · intro w'
            go_simp
            with_reducible rfl
          rotate_left
          · simp only [Act.put, List.setIfInBounds_toArray, List.set_cons_zero, List.set_cons_succ, i64_w, i32_w]
            rfl
          refine pure_ (i := 1) (N := some 159) (v := ?_) (a' := ?_) #[true, true, false, false, false, false, false, false, false, false, false, false, false] rfl rfl (by kernel_rfl) (fun _ _ _ h => h) (Or.inl ⟨by rfl, ?_⟩) ?_ ?_
          rotate_left
          · intro w'
            go_simp
            with_reducible rfl
          rotate_left
          · simp only [Act.put, List.setIfInBounds_toArray, List.set_cons_zero, List.set_cons_succ, i64_w, i32_w]
            rfl
          refine pure_ (i := 2) (N := some 160) (v := ?_) (a' := ?_) #[true, true, true, false, false, false, false, false, false, false, false, false, false] rfl rfl (by kernel_rfl) (fun _ _ _ h => h) (Or.inl ⟨by rfl, ?_⟩) ?_ ?_
          rotate_left
          · intro w'
            go_simp
            with_reducible rfl
          rotate_left
          · simp only [Act.put, List.setIfInBounds_toArray, List.set_cons_zero, List.set_cons_succ, i64_w, i32_w]
            rfl
          refine pure_ (i := 3) (N := some 161) (v := ?_) (a' := ?_) #[true, true, true, true, false, false, false, false, false, false, false, false, false] rfl rfl (by kernel_rfl) (fun _ _ _ h => h) (Or.inl ⟨by rfl, ?_⟩) ?_ ?_
          rotate_left
          · intro w'
            go_simp
            with_reducible rfl
          rotate_left
          · simp only [Act.put, List.setIfInBounds_toArray, List.set_cons_zero, List.set_cons_succ, i64_w, i32_w]
            rfl
          refine pure_ (i := 5) (N := some 163) (v := ?_) (a' := ?_) #[true, true, true, true, false, true, false, false, false, false, false, false, false] rfl rfl (by kernel_rfl) (fun _ _ _ h => h) (Or.inl ⟨by rfl, ?_⟩) ?_ ?_
          rotate_left
          · intro w'
            go_simp
            with_reducible rfl
          rotate_left
          · simp only [Act.put, List.setIfInBounds_toArray, List.set_cons_zero, List.set_cons_succ, i64_w, i32_w]
            rfl
          refine take_ (i := 4) (N := some 162) (v := ?_) (a' := ?_) #[true, true, true, true, true, true, false, false, false, false, false, false, false] rfl rfl (by kernel_rfl) (fun _ _ _ h => h) (Or.inl ⟨by rfl, ?_⟩) hHeld ?_ ?_
          rotate_left
          · rintro w' ⟨s0, s1, s2⟩
            go_simp
            with_reducible rfl
          rotate_left
          · simp only [Act.put, List.setIfInBounds_toArray, List.set_cons_zero, List.set_cons_succ, i64_w, i32_w]
            rfl
          refine take_ (i := 6) (N := some 164) (v := ?_) (a' := ?_) #[true, true, true, true, true, true, true, false, false, false, false, false, false] rfl rfl (by kernel_rfl) (fun _ _ _ h => h) (Or.inl ⟨by rfl, ?_⟩) hHeld ?_ ?_
          rotate_left
          · rintro w' ⟨s0, s1, s2⟩
            go_simp
            with_reducible rfl
          rotate_left
          · simp only [Act.put, List.setIfInBounds_toArray, List.set_cons_zero, List.set_cons_succ, i64_w, i32_w]
            rfl
          refine pure_ (i := 7) (N := some 165) (v := ?_) (a' := ?_) #[true, true, true, true, true, true, true, true, false, false, false, false, false] rfl rfl (by kernel_rfl) (fun _ _ _ h => h) (Or.inl ⟨by rfl, ?_⟩) ?_ ?_
          rotate_left
          · intro w'
            go_simp
            with_reducible rfl
          rotate_left
          · simp only [Act.put, List.setIfInBounds_toArray, List.set_cons_zero, List.set_cons_succ, i64_w, i32_w]
            rfl
          refine one_ (i := 8) (N := some 166) #[true, true, true, true, true, true, true, true, true, false, false, false, false] rfl rfl (by kernel_rfl) (by decide) (fun K hK => ?_)
          refine value_ (w1 := ?_) (v := ?_) (by rfl) rfl ?_ ?_
          rotate_left 2
          · go_simp
            constructor
            · rfl
            · rfl
          refine hK.out _ _ ⟨(sc_alloc hS3 _).cells.2.2.1, (cell_alloc kb3.1 _), (cell_alloc kb3.2 _)⟩ (fun hHeld => ?_)
          clear hK K
          refine norm_ (a' := ?_) ?_ ?_
          rotate_left
          · show Act.put _ (some 166) _ = _
            simp only [Act.put, List.setIfInBounds_toArray, List.set_cons_zero, List.set_cons_succ, i64_w, i32_w]
            rfl
          refine one_ (i := 9) (N := some 167) #[true, true, true, true, true, true, true, true, true, true, false, false, false] rfl rfl (by kernel_rfl) (by decide) (fun K hK => ?_)
          refine step_append_lies _ (by rfl) _ _ _ (by rfl) (g + 1) 98 i0 _ 5 48 Tryz.underlying92 hi0 hz0 hz1 hz2 rfl (by omega) (.slice A n cap) n xs (by rfl) (hO3.alloc _) ⟨Wd.heap.size, 0, none⟩ 1 1 [.int .i64 2, .int .i64 i, .string ⟨#[]⟩, .int .i64 r1, .int .i64 r2] (by rfl) (by rfl) (World.news_of_block (cs := #[.int .i64 2, .int .i64 i, .string ⟨#[]⟩, .int .i64 r1, .int .i64 r2]) (t := 98) (fr := (0, 0)) (heap_alloc_new Wd _)) (by simp [Value.oneCell']) (by omega) (by unfold maxLen; omega) (by omega) (by simp; omega) (Wd.heap.size + 1) (by simp) ?_
          intro gg cap2 w1 hown1 hgrow hat hlt
          refine hK.out _ _ ⟨(sc_grown (sc_alloc hS3 _) hgrow hne).cells.2.2.1, (hgrow.cell (cell_alloc kb3.1 _) hneb), (hgrow.cell (cell_alloc kb3.2 _) hneb)⟩ (fun hHeld => ?_)
          clear hK K
          refine norm_ (a' := ?_) ?_ ?_
          rotate_left
          · show Act.put _ (some 167) _ = _
            simp only [Act.put, List.setIfInBounds_toArray, List.set_cons_zero, List.set_cons_succ, i64_w, i32_w]
            rfl
          refine pure_ (i := 10) (N := some 168) (v := ?_) (a' := ?_) #[true, true, true, true, true, true, true, true, true, true, true, false, false] rfl rfl (by kernel_rfl) (fun _ _ _ h => h) (Or.inl ⟨by rfl, ?_⟩) ?_ ?_
          rotate_left
          · intro w'
            go_simp
            with_reducible rfl
          rotate_left
          · simp only [Act.put, List.setIfInBounds_toArray, List.set_cons_zero, List.set_cons_succ, i64_w, i32_w]
            rfl
          refine pure_ (i := 11) (N := some 169) (v := ?_) (a' := ?_) #[true, true, true, true, true, true, true, true, true, true, true, true, false] rfl rfl (by kernel_rfl) (fun _ _ _ h => h) (Or.inl ⟨by rfl, ?_⟩) ?_ ?_
          rotate_left
          · intro w'
            go_simp
            with_reducible rfl
          rotate_left
          · simp only [Act.put, List.setIfInBounds_toArray, List.set_cons_zero, List.set_cons_succ, i64_w, i32_w]
            rfl
          refine last_ (i := 12) (N := none) #[true, true, true, true, true, true, true, true, true, true, true, true, true] rfl rfl (by kernel_rfl) (by decide) (fun K hK => ?_)
          have kc := (sc_grown (sc_alloc hS3 _) hgrow hne).cells.2.2.1
          have kf := (sc_grown (sc_alloc hS3 _) hgrow hne).cells.2.2.2.2.2
          refine skip_ (w1 := ?_) (by rfl) rfl ?_ ?_
          rotate_left
          · go_simp
            rfl
          refine hK.out _ _ ?_
          clear hK K
          refine done_ (by kernel_rfl) ?_
          have hS4 := sc_grown (sc_alloc hS3 _) hgrow hne
          go_wp2_with fail
          (try simp only [Exit.inBlock, Exit.then])
          refine bodyPost_ret (results_none rfl _ _ _) rfl ?_
          rw [HE2.out]
          refine ⟨rfl, ⟨_, hS4.out_ _, ?_⟩, ?_⟩
          · exact (set_own hown1 _)
          · exact (below_grown (hB3.alloc (by omega) _) hgrow (by simp; omega) (fun k hk => by have := (hO3.lt k hk).1; omega)).setCell (Nat.le_refl _) _
      · have hltz2 : (j : Int) < (s.size : Int) := by omega
        have hltd : decide ((j : Int) < (s.size : Int)) = true := decide_eq_true hltz2
        have HP := Lib.hid (part_ok s[j] true)
        rw [hp] at HP
        have HVAL : Hid (∀ W, Calls Tryz.prog 157 #[.string (s.extract i j)] W fun e w' => e = .returned (.tuple #[.agg #[.int .i64 r1, .int .i64 r2], .int .i64 0]) ∧ Below W.heap.size W w') := by rw [← HE2.out]; exact HVAL0
        clear hp
        go_wp2_with fail
        go_quiet ((go_at_call 156; exact quiet_first HP.out))
        go_wp2_with fail
        refine gen_world (fun w' => Sc w' g s (j : Int) (.slice A n cap) ∧ Only g w w') ⟨by repeat (first | exact HS2.out | apply Sc.drewN), by repeat (first | exact HOn.out | apply Only.drewN)⟩ ?_
        rintro W ⟨hS2, hOn⟩
        clear c0 c1 c2 f0 f1 f2
        have hO2 := hOn.own HO.out
        obtain ⟨c0, c1, c2, f0, f1, f2⟩ := hS2.cells
        have hgl := hS2.lt
        have hne := own_ne hO2 (Nat.le_refl g)
        have im1 : (j : Int) ≤ (s.size : Int) := by omega
        have im2 : (i : Int) ≤ (j : Int) := by omega
        have hS3 := hS2.drew
        have hO3 : W.drew.ownsRow (g + 1) 98 5 (.slice A n cap) n xs := hO2.drew
        have hB3 : Below g w W.drew := hOn.below.drew
        have hval := HVAL.out
        have nw0 := World.new_ne W _ c0
        have nw1 := World.new_ne W _ c1
        go_region_held3 (fun w' => w'.cell? ⟨g, 0, none⟩ = some (.string s) ∧ w'.cell? ⟨g, 1, none⟩ = some (.int .i64 (j : Int)))
          (go_keep)
          ((go_at_call 157; refine (hval _).mono ?_; rintro e w2 ⟨rfl, hb⟩; have hq : Sc w2 g s (j : Int) (.slice A n cap) := Sc.keep (by first | exact hS2.drew | exact sc_alloc hS2.drew _) (hb.block g (by simp; omega)); have hbw : Below g w w2 := Below.trans (by first | exact hB3 | exact hB3.alloc (by simp; omega) _) (hb.mono (by simp; omega)); have ho2 : w2.ownsRow (g + 1) 98 5 (.slice A n cap) n xs := own_below (by first | exact hO3 | exact hO3.alloc _) hb; have hz := hb.size; obtain ⟨q0, q1, q2, q3, q4, q5⟩ := hq.cells; have n0 := World.new_ne w2 _ q0; have n1 := World.new_ne w2 _ q1; (try (refine use_new (B := W.heap.size) (a := .int .i64 0) (b := .int .i64 0) hb ?_ ?_ ?_ ?_ ?_ ?_; (· simp; done); (· go_simp; done); (· go_simp; done); (· go_simp; done); (· go_simp; done); intro z0 z1 z2 z3))))
        go_wp2_with fail
        · refine gen_world (fun w' => Sc w' g s (j : Int) (.slice A n cap) ∧ w'.ownsRow (g + 1) 98 5 (.slice A n cap) n xs ∧ Below g w w' ∧ w'.cell? ⟨w2.heap.size, 0, none⟩ = some (.int .i64 r1) ∧ w'.cell? ⟨w2.heap.size, 1, none⟩ = some (.int .i64 r2) ∧ some w2.heap.size ≠ (Value.slice A n cap).ownBlock) ?_ ?_
          · exact ⟨sc_alloc hq _, ho2.alloc _, by repeat (first | exact hbw | exact hbw.alloc (Nat.le_of_lt hq.lt) _ | refine Below.setCell ?_ (by simp; omega) _), by go_simp, by go_simp, fun e => by have := (ho2.lt _ e.symm).2; simp at this⟩
          rintro W2 ⟨hS2', hO2', hB2', kb0, kb1, hneb⟩
          clear hq q0 q1 q2 q3 q4 q5 n0 n1 nw0 nw1 hb hbw ho2 hz hS3 hO3 hB3 hne hgl c0 c1 c2 f0 f1 f2 hO2 hS2 hOn
          generalize w2.heap.size = b6 at kb0 kb1 hneb ⊢
          obtain ⟨c0, c1, c2, f0, f1, f2⟩ := hS2'.cells
          have hgl := hS2'.lt
          have hne := own_ne hO2' (Nat.le_refl g)
          have hS3 := hS2'.drew
          have hO3 : W2.drew.ownsRow (g + 1) 98 5 (.slice A n cap) n xs := hO2'.drew
          have hB3 : Below g w W2.drew := hB2'.drew
          have kb3 : W2.drew.cell? ⟨b6, 0, none⟩ = some (.int .i64 r1) ∧ W2.drew.cell? ⟨b6, 1, none⟩ = some (.int .i64 r2) := ⟨kb0, kb1⟩
          clear kb0 kb1
          refine start_ (n := 13) (S := fun w' => w'.cell? ⟨g, 2, none⟩ = some (.slice A n cap) ∧ w'.cell? ⟨b6, 0, none⟩ = some (.int .i64 r1) ∧ w'.cell? ⟨b6, 1, none⟩ = some (.int .i64 r2)) (ds := [12]) #[false, false, false, false, false, false, false, false, false, false, false, false, false] (by kernel_rfl) rfl rfl ⟨hS3.cells.2.2.1, kb3.1, kb3.2⟩ ?_
          intro hHeld
          generalize W2.drew = Wd at hHeld hS3 hO3 hB3 kb3 ⊢
          have hgd := hS3.lt
          refine pure_ (i := 0) (N := some 158) (v := ?_) (a' := ?_) #[true, false, false, false, false, false, false, false, false, false, false, false, false] rfl rfl (by kernel_rfl) (fun _ _ _ h => h) (Or.inl ⟨by rfl, ?_⟩) ?_ ?_
          rotate_left
          · intro w'
            go_simp
            with_reducible rfl
          rotate_left
          · simp only [Act.put, List.setIfInBounds_toArray, List.set_cons_zero, List.set_cons_succ, i64_w, i32_w]
            rfl
          refine pure_ (i := 1) (N := some 159) (v := ?_) (a' := ?_) #[true, true, false, false, false, false, false, false, false, false, false, false, false] rfl rfl (by kernel_rfl) (fun _ _ _ h => h) (Or.inl ⟨by rfl, ?_⟩) ?_ ?_
          rotate_left
          · intro w'
            go_simp
            with_reducible rfl
          rotate_left
          · simp only [Act.put, List.setIfInBounds_toArray, List.set_cons_zero, List.set_cons_succ, i64_w, i32_w]
            rfl
          refine pure_ (i := 2) (N := some 160) (v := ?_) (a' := ?_) #[true, true, true, false, false, false, false, false, false, false, false, false, false] rfl rfl (by kernel_rfl) (fun _ _ _ h => h) (Or.inl ⟨by rfl, ?_⟩) ?_ ?_
          rotate_left
          · intro w'
            go_simp
            with_reducible rfl
          rotate_left
          · simp only [Act.put, List.setIfInBounds_toArray, List.set_cons_zero, List.set_cons_succ, i64_w, i32_w]
            rfl
          refine pure_ (i := 3) (N := some 161) (v := ?_) (a' := ?_) #[true, true, true, true, false, false, false, false, false, false, false, false, false] rfl rfl (by kernel_rfl) (fun _ _ _ h => h) (Or.inl ⟨by rfl, ?_⟩) ?_ ?_
          rotate_left
          · intro w'
            go_simp
            with_reducible rfl
          rotate_left
          · simp only [Act.put, List.setIfInBounds_toArray, List.set_cons_zero, List.set_cons_succ, i64_w, i32_w]
            rfl
          refine pure_ (i := 5) (N := some 163) (v := ?_) (a' := ?_) #[true, true, true, true, false, true, false, false, false, false, false, false, false] rfl rfl (by kernel_rfl) (fun _ _ _ h => h) (Or.inl ⟨by rfl, ?_⟩) ?_ ?_
          rotate_left
          · intro w'
            go_simp
            with_reducible rfl
          rotate_left
          · simp only [Act.put, List.setIfInBounds_toArray, List.set_cons_zero, List.set_cons_succ, i64_w, i32_w]
            rfl
          refine take_ (i := 4) (N := some 162) (v := ?_) (a' := ?_) #[true, true, true, true, true, true, false, false, false, false, false, false, false] rfl rfl (by kernel_rfl) (fun _ _ _ h => h) (Or.inl ⟨by rfl, ?_⟩) hHeld ?_ ?_
          rotate_left
          · rintro w' ⟨s0, s1, s2⟩
            go_simp
            with_reducible rfl
          rotate_left
          · simp only [Act.put, List.setIfInBounds_toArray, List.set_cons_zero, List.set_cons_succ, i64_w, i32_w]
            rfl
          refine take_ (i := 6) (N := some 164) (v := ?_) (a' := ?_) #[true, true, true, true, true, true, true, false, false, false, false, false, false] rfl rfl (by kernel_rfl) (fun _ _ _ h => h) (Or.inl ⟨by rfl, ?_⟩) hHeld ?_ ?_
          rotate_left
          · rintro w' ⟨s0, s1, s2⟩
            go_simp
            with_reducible rfl
          rotate_left
          · simp only [Act.put, List.setIfInBounds_toArray, List.set_cons_zero, List.set_cons_succ, i64_w, i32_w]
            rfl
          refine pure_ (i := 7) (N := some 165) (v := ?_) (a' := ?_) #[true, true, true, true, true, true, true, true, false, false, false, false, false] rfl rfl (by kernel_rfl) (fun _ _ _ h => h) (Or.inl ⟨by rfl, ?_⟩) ?_ ?_
          rotate_left
          · intro w'
            go_simp
            with_reducible rfl
          rotate_left
          · simp only [Act.put, List.setIfInBounds_toArray, List.set_cons_zero, List.set_cons_succ, i64_w, i32_w]
            rfl
          refine one_ (i := 8) (N := some 166) #[true, true, true, true, true, true, true, true, true, false, false, false, false] rfl rfl (by kernel_rfl) (by decide) (fun K hK => ?_)
          refine value_ (w1 := ?_) (v := ?_) (by rfl) rfl ?_ ?_
          rotate_left 2
          · go_simp
            constructor
            · rfl
            · rfl
          refine hK.out _ _ ⟨(sc_alloc hS3 _).cells.2.2.1, (cell_alloc kb3.1 _), (cell_alloc kb3.2 _)⟩ (fun hHeld => ?_)
          clear hK K
          refine norm_ (a' := ?_) ?_ ?_
          rotate_left
          · show Act.put _ (some 166) _ = _
            simp only [Act.put, List.setIfInBounds_toArray, List.set_cons_zero, List.set_cons_succ, i64_w, i32_w]
            rfl
          refine one_ (i := 9) (N := some 167) #[true, true, true, true, true, true, true, true, true, true, false, false, false] rfl rfl (by kernel_rfl) (by decide) (fun K hK => ?_)
          refine step_append_lies _ (by rfl) _ _ _ (by rfl) (g + 1) 98 i0 _ 5 48 Tryz.underlying92 hi0 hz0 hz1 hz2 rfl (by omega) (.slice A n cap) n xs (by rfl) (hO3.alloc _) ⟨Wd.heap.size, 0, none⟩ 1 1 [.int .i64 2, .int .i64 i, .string ⟨#[]⟩, .int .i64 r1, .int .i64 r2] (by rfl) (by rfl) (World.news_of_block (cs := #[.int .i64 2, .int .i64 i, .string ⟨#[]⟩, .int .i64 r1, .int .i64 r2]) (t := 98) (fr := (0, 0)) (heap_alloc_new Wd _)) (by simp [Value.oneCell']) (by omega) (by unfold maxLen; omega) (by omega) (by simp; omega) (Wd.heap.size + 1) (by simp) ?_
          intro gg cap2 w1 hown1 hgrow hat hlt
          refine hK.out _ _ ⟨(sc_grown (sc_alloc hS3 _) hgrow hne).cells.2.2.1, (hgrow.cell (cell_alloc kb3.1 _) hneb), (hgrow.cell (cell_alloc kb3.2 _) hneb)⟩ (fun hHeld => ?_)
          clear hK K
          refine norm_ (a' := ?_) ?_ ?_
          rotate_left
          · show Act.put _ (some 167) _ = _
            simp only [Act.put, List.setIfInBounds_toArray, List.set_cons_zero, List.set_cons_succ, i64_w, i32_w]
            rfl
          refine pure_ (i := 10) (N := some 168) (v := ?_) (a' := ?_) #[true, true, true, true, true, true, true, true, true, true, true, false, false] rfl rfl (by kernel_rfl) (fun _ _ _ h => h) (Or.inl ⟨by rfl, ?_⟩) ?_ ?_
          rotate_left
          · intro w'
            go_simp
            with_reducible rfl
          rotate_left
          · simp only [Act.put, List.setIfInBounds_toArray, List.set_cons_zero, List.set_cons_succ, i64_w, i32_w]
            rfl
          refine pure_ (i := 11) (N := some 169) (v := ?_) (a' := ?_) #[true, true, true, true, true, true, true, true, true, true, true, true, false] rfl rfl (by kernel_rfl) (fun _ _ _ h => h) (Or.inl ⟨by rfl, ?_⟩) ?_ ?_
          rotate_left
          · intro w'
            go_simp
            with_reducible rfl
          rotate_left
          · simp only [Act.put, List.setIfInBounds_toArray, List.set_cons_zero, List.set_cons_succ, i64_w, i32_w]
            rfl
          refine last_ (i := 12) (N := none) #[true, true, true, true, true, true, true, true, true, true, true, true, true] rfl rfl (by kernel_rfl) (by decide) (fun K hK => ?_)
          have kc := (sc_grown (sc_alloc hS3 _) hgrow hne).cells.2.2.1
          have kf := (sc_grown (sc_alloc hS3 _) hgrow hne).cells.2.2.2.2.2
          refine skip_ (w1 := ?_) (by rfl) rfl ?_ ?_
          rotate_left
          · go_simp
            rfl
          refine hK.out _ _ ?_
          clear hK K
          refine done_ (by kernel_rfl) ?_
          have hS4 := sc_grown (sc_alloc hS3 _) hgrow hne
          go_wp2_with fail
          (try simp only [Exit.inBlock, Exit.then])
          refine bodyPost_ret (results_none rfl _ _ _) rfl ?_
          rw [HE2.out]
          refine ⟨rfl, ⟨_, hS4.out_ _, ?_⟩, ?_⟩
          · exact (set_own hown1 _)
          · exact (below_grown (hB3.alloc (by omega) _) hgrow (by simp; omega) (fun k hk => by have := (hO3.lt k hk).1; omega)).setCell (Nat.le_refl _) _
        · refine gen_world (fun w' => Sc w' g s (j : Int) (.slice A n cap) ∧ w'.ownsRow (g + 1) 98 5 (.slice A n cap) n xs ∧ Below g w w' ∧ w'.cell? ⟨W.heap.size, 0, none⟩ = some (.int .i64 r1) ∧ w'.cell? ⟨W.heap.size, 1, none⟩ = some (.int .i64 r2) ∧ some W.heap.size ≠ (Value.slice A n cap).ownBlock) ?_ ?_
          · exact ⟨(hq.keep (by rw [Below.heap_setCell _ _ _ _ (by simp; omega), Below.heap_setCell _ _ _ _ (by simp; omega)])), set_new (set_new ho2 (hO2) ) (hO2), by repeat (first | exact hbw | exact hbw.alloc (Nat.le_of_lt hq.lt) _ | refine Below.setCell ?_ (by simp; omega) _), by go_simp, by go_simp, fun e => by have := (hO2.lt _ e.symm).2; simp at this⟩
          rintro W2 ⟨hS2', hO2', hB2', kb0, kb1, hneb⟩
          clear hq q0 q1 q2 q3 q4 q5 n0 n1 nw0 nw1 hb hbw ho2 hz hS3 hO3 hB3 hne hgl c0 c1 c2 f0 f1 f2 hO2 hS2 hOn
          clear z0 z1 z2 z3
          generalize W.heap.size = b6 at kb0 kb1 hneb ⊢
          obtain ⟨c0, c1, c2, f0, f1, f2⟩ := hS2'.cells
          have hgl := hS2'.lt
          have hne := own_ne hO2' (Nat.le_refl g)
          have hS3 := hS2'.drew
          have hO3 : W2.drew.ownsRow (g + 1) 98 5 (.slice A n cap) n xs := hO2'.drew
          have hB3 : Below g w W2.drew := hB2'.drew
          have kb3 : W2.drew.cell? ⟨b6, 0, none⟩ = some (.int .i64 r1) ∧ W2.drew.cell? ⟨b6, 1, none⟩ = some (.int .i64 r2) := ⟨kb0, kb1⟩
          clear kb0 kb1
          refine start_ (n := 13) (S := fun w' => w'.cell? ⟨g, 2, none⟩ = some (.slice A n cap) ∧ w'.cell? ⟨b6, 0, none⟩ = some (.int .i64 r1) ∧ w'.cell? ⟨b6, 1, none⟩ = some (.int .i64 r2)) (ds := [12]) #[false, false, false, false, false, false, false, false, false, false, false, false, false] (by kernel_rfl) rfl rfl ⟨hS3.cells.2.2.1, kb3.1, kb3.2⟩ ?_
          intro hHeld
          generalize W2.drew = Wd at hHeld hS3 hO3 hB3 kb3 ⊢
          have hgd := hS3.lt
          refine pure_ (i := 0) (N := some 158) (v := ?_) (a' := ?_) #[true, false, false, false, false, false, false, false, false, false, false, false, false] rfl rfl (by kernel_rfl) (fun _ _ _ h => h) (Or.inl ⟨by rfl, ?_⟩) ?_ ?_
          rotate_left
          · intro w'
            go_simp
            with_reducible rfl
          rotate_left
          · simp only [Act.put, List.setIfInBounds_toArray, List.set_cons_zero, List.set_cons_succ, i64_w, i32_w]
            rfl
          refine pure_ (i := 1) (N := some 159) (v := ?_) (a' := ?_) #[true, true, false, false, false, false, false, false, false, false, false, false, false] rfl rfl (by kernel_rfl) (fun _ _ _ h => h) (Or.inl ⟨by rfl, ?_⟩) ?_ ?_
          rotate_left
          · intro w'
            go_simp
            with_reducible rfl
          rotate_left
          · simp only [Act.put, List.setIfInBounds_toArray, List.set_cons_zero, List.set_cons_succ, i64_w, i32_w]
            rfl
          refine pure_ (i := 2) (N := some 160) (v := ?_) (a' := ?_) #[true, true, true, false, false, false, false, false, false, false, false, false, false] rfl rfl (by kernel_rfl) (fun _ _ _ h => h) (Or.inl ⟨by rfl, ?_⟩) ?_ ?_
          rotate_left
          · intro w'
            go_simp
            with_reducible rfl
          rotate_left
          · simp only [Act.put, List.setIfInBounds_toArray, List.set_cons_zero, List.set_cons_succ, i64_w, i32_w]
            rfl
          refine pure_ (i := 3) (N := some 161) (v := ?_) (a' := ?_) #[true, true, true, true, false, false, false, false, false, false, false, false, false] rfl rfl (by kernel_rfl) (fun _ _ _ h => h) (Or.inl ⟨by rfl, ?_⟩) ?_ ?_
          rotate_left
          · intro w'
            go_simp
            with_reducible rfl
          rotate_left
          · simp only [Act.put, List.setIfInBounds_toArray, List.set_cons_zero, List.set_cons_succ, i64_w, i32_w]
            rfl
          refine pure_ (i := 5) (N := some 163) (v := ?_) (a' := ?_) #[true, true, true, true, false, true, false, false, false, false, false, false, false] rfl rfl (by kernel_rfl) (fun _ _ _ h => h) (Or.inl ⟨by rfl, ?_⟩) ?_ ?_
          rotate_left
          · intro w'
            go_simp
            with_reducible rfl
          rotate_left
          · simp only [Act.put, List.setIfInBounds_toArray, List.set_cons_zero, List.set_cons_succ, i64_w, i32_w]
            rfl
          refine take_ (i := 4) (N := some 162) (v := ?_) (a' := ?_) #[true, true, true, true, true, true, false, false, false, false, false, false, false] rfl rfl (by kernel_rfl) (fun _ _ _ h => h) (Or.inl ⟨by rfl, ?_⟩) hHeld ?_ ?_
          rotate_left
          · rintro w' ⟨s0, s1, s2⟩
            go_simp
            with_reducible rfl
          rotate_left
          · simp only [Act.put, List.setIfInBounds_toArray, List.set_cons_zero, List.set_cons_succ, i64_w, i32_w]
            rfl
          refine take_ (i := 6) (N := some 164) (v := ?_) (a' := ?_) #[true, true, true, true, true, true, true, false, false, false, false, false, false] rfl rfl (by kernel_rfl) (fun _ _ _ h => h) (Or.inl ⟨by rfl, ?_⟩) hHeld ?_ ?_
          rotate_left
          · rintro w' ⟨s0, s1, s2⟩
            go_simp
            with_reducible rfl
          rotate_left
          · simp only [Act.put, List.setIfInBounds_toArray, List.set_cons_zero, List.set_cons_succ, i64_w, i32_w]
            rfl
          refine pure_ (i := 7) (N := some 165) (v := ?_) (a' := ?_) #[true, true, true, true, true, true, true, true, false, false, false, false, false] rfl rfl (by kernel_rfl) (fun _ _ _ h => h) (Or.inl ⟨by rfl, ?_⟩) ?_ ?_
          rotate_left
          · intro w'
            go_simp
            with_reducible rfl
          rotate_left
          · simp only [Act.put, List.setIfInBounds_toArray, List.set_cons_zero, List.set_cons_succ, i64_w, i32_w]
            rfl
          refine one_ (i := 8) (N := some 166) #[true, true, true, true, true, true, true, true, true, false, false, false, false] rfl rfl (by kernel_rfl) (by decide) (fun K hK => ?_)
          refine value_ (w1 := ?_) (v := ?_) (by rfl) rfl ?_ ?_
          rotate_left 2
          · go_simp
            constructor
            · rfl
            · rfl
          refine hK.out _ _ ⟨(sc_alloc hS3 _).cells.2.2.1, (cell_alloc kb3.1 _), (cell_alloc kb3.2 _)⟩ (fun hHeld => ?_)
          clear hK K
          refine norm_ (a' := ?_) ?_ ?_
          rotate_left
          · show Act.put _ (some 166) _ = _
            simp only [Act.put, List.setIfInBounds_toArray, List.set_cons_zero, List.set_cons_succ, i64_w, i32_w]
            rfl
          refine one_ (i := 9) (N := some 167) #[true, true, true, true, true, true, true, true, true, true, false, false, false] rfl rfl (by kernel_rfl) (by decide) (fun K hK => ?_)
          refine step_append_lies _ (by rfl) _ _ _ (by rfl) (g + 1) 98 i0 _ 5 48 Tryz.underlying92 hi0 hz0 hz1 hz2 rfl (by omega) (.slice A n cap) n xs (by rfl) (hO3.alloc _) ⟨Wd.heap.size, 0, none⟩ 1 1 [.int .i64 2, .int .i64 i, .string ⟨#[]⟩, .int .i64 r1, .int .i64 r2] (by rfl) (by rfl) (World.news_of_block (cs := #[.int .i64 2, .int .i64 i, .string ⟨#[]⟩, .int .i64 r1, .int .i64 r2]) (t := 98) (fr := (0, 0)) (heap_alloc_new Wd _)) (by simp [Value.oneCell']) (by omega) (by unfold maxLen; omega) (by omega) (by simp; omega) (Wd.heap.size + 1) (by simp) ?_
          intro gg cap2 w1 hown1 hgrow hat hlt
          refine hK.out _ _ ⟨(sc_grown (sc_alloc hS3 _) hgrow hne).cells.2.2.1, (hgrow.cell (cell_alloc kb3.1 _) hneb), (hgrow.cell (cell_alloc kb3.2 _) hneb)⟩ (fun hHeld => ?_)
          clear hK K
          refine norm_ (a' := ?_) ?_ ?_
          rotate_left
          · show Act.put _ (some 167) _ = _
            simp only [Act.put, List.setIfInBounds_toArray, List.set_cons_zero, List.set_cons_succ, i64_w, i32_w]
            rfl
          refine pure_ (i := 10) (N := some 168) (v := ?_) (a' := ?_) #[true, true, true, true, true, true, true, true, true, true, true, false, false] rfl rfl (by kernel_rfl) (fun _ _ _ h => h) (Or.inl ⟨by rfl, ?_⟩) ?_ ?_
          rotate_left
          · intro w'
            go_simp
            with_reducible rfl
          rotate_left
          · simp only [Act.put, List.setIfInBounds_toArray, List.set_cons_zero, List.set_cons_succ, i64_w, i32_w]
            rfl
          refine pure_ (i := 11) (N := some 169) (v := ?_) (a' := ?_) #[true, true, true, true, true, true, true, true, true, true, true, true, false] rfl rfl (by kernel_rfl) (fun _ _ _ h => h) (Or.inl ⟨by rfl, ?_⟩) ?_ ?_
          rotate_left
          · intro w'
            go_simp
            with_reducible rfl
          rotate_left
          · simp only [Act.put, List.setIfInBounds_toArray, List.set_cons_zero, List.set_cons_succ, i64_w, i32_w]
            rfl
          refine last_ (i := 12) (N := none) #[true, true, true, true, true, true, true, true, true, true, true, true, true] rfl rfl (by kernel_rfl) (by decide) (fun K hK => ?_)
          have kc := (sc_grown (sc_alloc hS3 _) hgrow hne).cells.2.2.1
          have kf := (sc_grown (sc_alloc hS3 _) hgrow hne).cells.2.2.2.2.2
          refine skip_ (w1 := ?_) (by rfl) rfl ?_ ?_
          rotate_left
          · go_simp
            rfl
          refine hK.out _ _ ?_
          clear hK K
          refine done_ (by kernel_rfl) ?_
          have hS4 := sc_grown (sc_alloc hS3 _) hgrow hne
          go_wp2_with fail
          (try simp only [Exit.inBlock, Exit.then])
          refine bodyPost_ret (results_none rfl _ _ _) rfl ?_
          rw [HE2.out]
          refine ⟨rfl, ⟨_, hS4.out_ _, ?_⟩, ?_⟩
          · exact (set_own hown1 _)
          · exact (below_grown (hB3.alloc (by omega) _) hgrow (by simp; omega) (fun k hk => by have := (hO3.lt k hk).1; omega)).setCell (Nat.le_refl _) _
end

end Go.Proofs.YthcjocojngochaaGreatDoor.X
