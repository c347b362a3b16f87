-- Written by a program of mine (wip/tools/xprint.py) over the kit's print.py: printed functions and hand-proved ones side by side.
import Derived.Test.YteifflpjhlgpjaaDoorXx0
import Derived.Test.YteifflpjhlgpjaaDoorXx2
namespace Go.Proofs.YteifflpjhlgpjaaDoor.X
open Go.RowKit Go.Proofs.YteifflpjhlgpjaaDoorW.PrintWords Go.Proofs.YteifflpjhlgpjaaDoorW.PrintLast Go.Proofs.YteifflpjhlgpjaaDoorW.PrintMore
attribute [local go_sem] max2_int min2_int max_two min_two max_three min_three max_four min_four   -- for this text's walks alone
set_option linter.unusedVariables false
set_option linter.unusedSimpArgs false

/-! ### strings_Cut: function 42 -/
-- by hand: strings.Cut
def cutAt (s : ByteArray) (c : UInt8) : ByteArray × ByteArray × Bool :=
 if 0 ≤ Lib.indexByte s.data.toList c then (s.extract 0 (Lib.indexByte s.data.toList c).toNat, s.extract ((Lib.indexByte s.data.toList c).toNat + 1) s.size, true) else (s, ⟨#[]⟩, false)
theorem indexByte_lt : ∀ (l : List UInt8) (c : UInt8), Lib.indexByte l c < l.length
 | [], c => by simp [Lib.indexByte]
 | b :: l, c => by
  have h := indexByte_lt l c
  simp only [Lib.indexByte, List.length_cons]
  split
  ·omega
  ·split <;> omega
theorem slite_cut (s : ByteArray) (c : UInt8) (w : World) (hs : s.size ≤ 9223372036854775806) :
  Calls Tryd.prog 51 #[.string s, .string ⟨#[c]⟩] w fun e w' => e = .returned (.tuple #[.string (cutAt s c).1, .string (cutAt s c).2.1, .bool (cutAt s c).2.2]) ∧ Drawn0 w w' := by
 have hi := indexByte_lt s.data.toList c
 have hI : ∀ W, Calls Tryd.prog 55 #[.string s, .string ⟨#[c]⟩] W fun e w' => e = .returned (.int .i64 (Lib.indexByte s.data.toList c)) ∧ w' = W := fun W => Tryd.stringslite_Index_one s c W
 have hlen : s.data.toList.length = s.size := by simp
 rw [hlen] at hi
 by_cases h0 : 0 ≤ Lib.indexByte s.data.toList c
 ·have e1 : cutAt s c = (s.extract 0 (Lib.indexByte s.data.toList c).toNat, s.extract ((Lib.indexByte s.data.toList c).toNat + 1) s.size, true) := by unfold cutAt; rw [if_pos h0]
  rw [e1]
  clear e1
  obtain ⟨i, hii⟩ : ∃ i : Nat, Lib.indexByte s.data.toList c = i := ⟨(Lib.indexByte s.data.toList c).toNat, by omega⟩
  rw [hii] at hI h0 hi ⊢
  clear hii hlen
  have hi2 : i < s.size := by omega
  have HI := Lib.hid hI
  clear hI
  go_enter Tryd.func51, Tryd.ntmps51
  go_wp2_with fail
  refine (HI.out _).mono ?_
  rintro e w' ⟨rfl, rfl⟩
  go_wp2_with fail
  have hz : (ByteArray.mk #[c]).size = 1 := rfl
  have g1 : (0 : Int) ≤ (i : Int) := by omega
  have g2 : (i : Int) ≤ (s.size : Int) := by omega
  have g3 : (0 : Int) ≤ (i : Int) + 1 := by omega
  have g4 : (i : Int) + 1 ≤ (s.size : Int) := by omega
  go_region
  go_wp2
  go_ret3
  exact ⟨rfl, (Drawn0.refl _).step 1⟩
 ·have e1 : cutAt s c = (s, ⟨#[]⟩, false) := by unfold cutAt; rw [if_neg h0]
  rw [e1]
  clear e1
  have hge := Lib.indexByte_ge s.data.toList c
  have hm : Lib.indexByte s.data.toList c = -1 := by omega
  rw [hm] at hI
  clear hm h0 hge hi hlen
  have HI := Lib.hid hI
  clear hI
  go_enter Tryd.func51, Tryd.ntmps51
  go_wp2_with fail
  refine (HI.out _).mono ?_
  rintro e w' ⟨rfl, rfl⟩
  go_wp2_with fail
  go_ret3
  exact ⟨rfl, Drawn0.refl _⟩
theorem cut_one (s : ByteArray) (c : UInt8) (w : World) (hs : s.size ≤ 9223372036854775806) :
  Calls Tryd.prog 42 #[.string s, .string ⟨#[c]⟩] w fun e w' => e = .returned (.tuple #[.string (cutAt s c).1, .string (cutAt s c).2.1, .bool (cutAt s c).2.2]) ∧ Drawn0 w w' := by
 have H := Lib.hid (fun W => slite_cut s c W hs)
 go_enter Tryd.func42, Tryd.ntmps42
 go_wp2_with fail
 refine (H.out _).mono ?_
 rintro e w' ⟨rfl, hd⟩
 go_wp2_with fail
 go_ret3
 exact ⟨rfl, hd⟩
/-- At a separator of one byte. -/
def strings_Cut.f (a0 a1 : ByteArray) : Option (ByteArray × ByteArray × Bool) := if a0.size ≤ 9223372036854775806 then (match a1.data.toList with | [c] => some (cutAt a0 c) | _ => none) else none
theorem strings_Cut.calls (a0 a1 : ByteArray) (r1 r2 : ByteArray) (r3 : Bool) (w : World) (h : strings_Cut.f a0 a1 = some (r1, r2, r3)) :
  Calls Tryd.prog 42 #[.string a0, .string a1] w fun e w' => e = .returned (.tuple #[.string r1, .string r2, .bool r3]) ∧ Drawn0 w w' := by
 unfold strings_Cut.f at h
 split at h
 ·rename_i hs
  split at h
  ·rename_i c hc
   have e : a1 = ⟨#[c]⟩ := by
    cases a1 with
    | mk d => cases d with
     | mk l => simp at hc; subst hc; rfl
   subst e
   have e2 := Option.some.inj h
   have := cut_one a0 c w hs
   rw [e2] at this
   exact this
  ·cases h
 ·cases h

/-! ### strconv_Atoi: function 43 -/
-- by hand: strconv.Atoi
theorem atoi_ok (s : ByteArray) (v : Int) (w : World) (hs : s.size ≤ 281474976710656) (h : Lib.atoiAll s.data.toList = .ok v) :
  Calls Tryd.prog 43 #[.string s] w fun e w' => e = .returned (.tuple #[.int .i64 v, .nilIface]) ∧ Below w.heap.size w w' := by
 refine (Tryd.strconv_Atoi_ok s (by omega) v h w).mono ?_
 rintro e w' ⟨rfl, hw⟩
 refine ⟨rfl, ?_⟩
 rcases hw with rfl | ⟨t, rfl⟩
 ·exact Below.refl _ _
 ·exact Lib.bytesWorld_below _ _ _
theorem atoi_err (s : ByteArray) (w : World) (hG : GL w) (hs : s.size ≤ 281474976710656) (h : ∀ v, Lib.atoiAll s.data.toList ≠ .ok v) :
  Calls Tryd.prog 43 #[.string s] w fun e w' => ∃ (x : Int) (tp : TypeId) (p : Value), e = .returned (.tuple #[.int .i64 x, .iface tp p]) ∧ Below w.heap.size w w' := by
 rcases hc : Lib.atoiAll s.data.toList with v | _ | _
 ·exact absurd hc (h v)
 ·obtain ⟨tp, p, hv⟩ := hG.syn
  have H : Calls Tryd.prog 43 #[.string s] w fun e w' => ∃ N, e = .returned (.tuple #[.int .i64 0, .iface 72 (.pointer (some ⟨N, 0, none⟩))]) ∧ w.heap.size ≤ N ∧ w'.heap[N]? = some (.cells #[.string ⟨#[65, 116, 111, 105]⟩, .string s, .iface tp p] 87 (0, 0)) ∧ Below w.heap.size w w' := Any.strconv_Atoi_syntax_var Tryd.laysC172 s hs hc tp p w hv
  refine H.mono ?_
  rintro e w' ⟨N, rfl, _, _, hb⟩
  exact ⟨_, _, _, rfl, hb⟩
 ·obtain ⟨tp, p, hv⟩ := hG.rng
  have H : Calls Tryd.prog 43 #[.string s] w fun e w' => ∃ N, e = .returned (.tuple #[.int .i64 (Lib.atoiSat s.data.toList), .iface 72 (.pointer (some ⟨N, 0, none⟩))]) ∧ w.heap.size ≤ N ∧ w'.heap[N]? = some (.cells #[.string ⟨#[65, 116, 111, 105]⟩, .string s, .iface tp p] 87 (0, 0)) ∧ Below w.heap.size w w' := Any.strconv_Atoi_range_var Tryd.laysC172 s hs hc tp p w hv
  refine H.mono ?_
  rintro e w' ⟨N, rfl, _, _, hb⟩
  exact ⟨_, _, _, rfl, hb⟩
/-- At a string that spells an int. -/
def strconv_Atoi.f (a0 : ByteArray) : Option (Int × Option Int) := if a0.size ≤ 281474976710656 then (match Lib.atoiAll a0.data.toList with | .ok v => some (v, none) | _ => none) else none
theorem strconv_Atoi.calls (a0 : ByteArray) (r1 : Int) (r2 : Option Int) (w : World) (h : strconv_Atoi.f a0 = some (r1, r2)) :
  Calls Tryd.prog 43 #[.string a0] w fun e w' => e = .returned (.tuple #[.int .i64 r1, errW r2]) ∧ Below w.heap.size w w' := by
 unfold strconv_Atoi.f at h
 split at h
 ·rename_i hs
  split at h
  ·rename_i v hv
   cases h
   exact atoi_ok a0 _ w hs hv
  ·cases h
 ·cases h

/-! ### rational_Parse: function 19 -/
-- by hand: cohousing/rational.Parse
/-- What Atoi says, if it says a number. -/
def atoiV (s : ByteArray) : Option Int := match Lib.atoiAll s.data.toList with | .ok v => some v | _ => none
theorem atoiV_some {s : ByteArray} {v : Int} (h : atoiV s = some v) : Lib.atoiAll s.data.toList = .ok v := by
 unfold atoiV at h
 split at h
 ·rename_i u hu; cases h; exact hu
 ·cases h
theorem atoiV_none {s : ByteArray} (h : atoiV s = none) : ∀ v, Lib.atoiAll s.data.toList ≠ .ok v := by
 unfold atoiV at h
 intro v e
 rw [e] at h
 cases h
/-- What is returned at the end: the number, if its text is the string. -/
def parseEnd (s : ByteArray) (n d : Int) : Option (Int × Int × Int) := (rational_Text.f n d).bind fun t => if t.2 = 0 ∧ t.1.toList = s.toList then some (n, d, 0) else some (0, 0, 8)
def ratParse (s : ByteArray) : Option (Int × Int × Int) :=
 match (cutAt s 47).2.2 with
 | false => match atoiV (cutAt s 47).1 with
  | none => some (0, 0, 8)
  | some n => parseEnd s n 1
 | true => match atoiV (cutAt s 47).1, atoiV (cutAt s 47).2.1 with
  | some n, some d => parseEnd s n d
  | _, _ => some (0, 0, 8)
set_option maxRecDepth 100000 in
set_option maxHeartbeats 4000000 in
theorem parse_a (s t b : ByteArray) (w : World) (hG : GL w) (hs : s.size ≤ 140737488351232) (ht : t.size ≤ s.size) (hb0 : b.size ≤ s.size)
  (hc : cutAt s 47 = (t, b, false)) (hn : atoiV t = none) :
  Calls Tryd.prog 19 #[.string s] w fun e w' => e = .returned (.tuple #[.agg #[.int .i64 0, .int .i64 0], .int .i64 8]) ∧ Below w.heap.size w w' := by
 have hu24 := Tryd.underlying24
 have HC := Lib.hid (fun W => cut_one s 47 W (by omega))
 rw [hc] at HC
 have HA := Lib.hid (fun W hW => atoi_err t W hW (by omega) (atoiV_none hn))
 clear hn
 have HG := Aside0.mk hG
 clear hc hG
 go_enter Tryd.func19, Tryd.ntmps19
 go_wp2_with fail
 refine (HC.out _).mono ?_
 rintro e w1 ⟨rfl, ⟨m, rfl⟩⟩
 go_wp2_with fail
 refine (HA.out _ HG.out.alloc.drewN).mono ?_
 rintro e w2 ⟨x, tp, p, rfl, hb⟩
 have HB := Aside0.mk hb
 clear hb
 have hz := HB.out.size
 simp at hz
 have hlt : w.heap.size < w2.heap.size := by omega
 have hne : ¬ w.heap.size = w2.heap.size := by omega
 have c0 : w2.cell? ⟨w.heap.size, 0, none⟩ = some (.int .i64 0) := (HB.out.cell (p := ⟨w.heap.size, 0, none⟩) (by simp)).trans (by go_simp)
 have f0 : w2.frozen? ⟨w.heap.size, 0, none⟩ = false := (HB.out.frozen (p := ⟨w.heap.size, 0, none⟩) (by simp)).trans (by go_simp)
 have c1 : w2.cell? ⟨w.heap.size, 1, none⟩ = some (.int .i64 0) := (HB.out.cell (p := ⟨w.heap.size, 1, none⟩) (by simp)).trans (by go_simp)
 have f1 : w2.frozen? ⟨w.heap.size, 1, none⟩ = false := (HB.out.frozen (p := ⟨w.heap.size, 1, none⟩) (by simp)).trans (by go_simp)
 go_wp2_with fail
 refine bodyPost_ret (v := .tuple #[.agg #[.int .i64 0, .int .i64 0], .int .i64 8]) (by simp [results, Tryd.results19, go_sem, hlt, hne, c0, c1, f0, f1]) rfl ⟨rfl, ?_⟩
 have HB0 : Below w.heap.size w w2 := (by repeat (first | exact Below.refl _ _ | apply bA | apply bN | apply below_drew) : Below w.heap.size w _).trans (HB.out.mono (by simp))
 repeat (first | exact HB0 | exact Below.refl _ _ | apply bA | apply bN | apply below_drew | refine Below.setCell ?_ (by simp; try omega) _)
set_option maxRecDepth 100000 in
set_option maxHeartbeats 4000000 in
theorem parse_b1 (s t b : ByteArray) (n : Int) (u : ByteArray) (g : Int) (w : World) (hG : GL w) (hs : s.size ≤ 140737488351232) (ht : t.size ≤ s.size) (hb0 : b.size ≤ s.size)
  (hc : cutAt s 47 = (t, b, false)) (hn : atoiV t = some n) (hx : rational_Text.f n 1 = some (u, g)) (hg : g = 0) (hu : u.toList = s.toList) :
  Calls Tryd.prog 19 #[.string s] w fun e w' => e = .returned (.tuple #[.agg #[.int .i64 n, .int .i64 1], .int .i64 0]) ∧ Below w.heap.size w w' := by
 have hu24 := Tryd.underlying24
 have HC := Lib.hid (fun W => cut_one s 47 W (by omega))
 rw [hc] at HC
 have HA := Lib.hid (fun W => atoi_ok t n W (by omega) (atoiV_some hn))
 clear hn
 have HX := Lib.hid (fun W hW => rational_Text.calls n 1 u g W hW hx)
 clear hx
 subst hg
 have hub : (u.toList == s.toList) = true := by simp [hu]
 have hun : (!(u.toList == s.toList)) = false := by simp [hu]
 replace hu := Aside0.mk hu
 have HG := Aside0.mk hG
 clear hc hG
 go_enter Tryd.func19, Tryd.ntmps19
 go_wp2_with fail
 refine (HC.out _).mono ?_
 rintro e w1 ⟨rfl, ⟨m, rfl⟩⟩
 go_wp2_with fail
 refine (HA.out _).mono ?_
 rintro e w2 ⟨rfl, hb⟩
 have HB := Aside0.mk hb
 clear hb
 have hz := HB.out.size
 simp at hz
 have hlt : w.heap.size < w2.heap.size := by omega
 have hne : ¬ w.heap.size = w2.heap.size := by omega
 have c0 : w2.cell? ⟨w.heap.size, 0, none⟩ = some (.int .i64 0) := (HB.out.cell (p := ⟨w.heap.size, 0, none⟩) (by simp)).trans (by go_simp)
 have f0 : w2.frozen? ⟨w.heap.size, 0, none⟩ = false := (HB.out.frozen (p := ⟨w.heap.size, 0, none⟩) (by simp)).trans (by go_simp)
 have c1 : w2.cell? ⟨w.heap.size, 1, none⟩ = some (.int .i64 0) := (HB.out.cell (p := ⟨w.heap.size, 1, none⟩) (by simp)).trans (by go_simp)
 have f1 : w2.frozen? ⟨w.heap.size, 1, none⟩ = false := (HB.out.frozen (p := ⟨w.heap.size, 1, none⟩) (by simp)).trans (by go_simp)
 have HGW := Aside0.mk (GL.below HG.out.alloc.drewN HB.out)
 go_wp2_with fail
 refine (HX.out _ (GL.alloc HGW.out)).mono ?_
 rintro e w4 ⟨rfl, hb⟩
 have hzw4 := hb.size
 simp at hzw4
 have hltw4 : w.heap.size < w4.heap.size := by omega
 have hnew4 : ¬ w.heap.size = w4.heap.size := by omega
 have hluw4 : w2.heap.size < w4.heap.size := by omega
 have hnuw4 : ¬ w2.heap.size = w4.heap.size := by omega
 have hnv : ¬ w.heap.size = w2.heap.size := by omega
 have hnw : ¬ w2.heap.size = w.heap.size := by omega
 have c0w4 : w4.cell? ⟨w.heap.size, 0, none⟩ = some (.int .i64 0) := (hb.cell (p := ⟨w.heap.size, 0, none⟩) (by simp; omega)).trans (by go_simp)
 have f0w4 : w4.frozen? ⟨w.heap.size, 0, none⟩ = false := (hb.frozen (p := ⟨w.heap.size, 0, none⟩) (by simp; omega)).trans (by go_simp)
 have c1w4 : w4.cell? ⟨w.heap.size, 1, none⟩ = some (.int .i64 0) := (hb.cell (p := ⟨w.heap.size, 1, none⟩) (by simp; omega)).trans (by go_simp)
 have f1w4 : w4.frozen? ⟨w.heap.size, 1, none⟩ = false := (hb.frozen (p := ⟨w.heap.size, 1, none⟩) (by simp; omega)).trans (by go_simp)
 have r0w4 : w4.cell? ⟨w2.heap.size, 0, none⟩ = some (.int .i64 n) := (hb.cell (p := ⟨w2.heap.size, 0, none⟩) (by simp; try omega)).trans (by go_simp)
 have q0w4 : w4.frozen? ⟨w2.heap.size, 0, none⟩ = false := (hb.frozen (p := ⟨w2.heap.size, 0, none⟩) (by simp; try omega)).trans (by go_simp)
 have r1w4 : w4.cell? ⟨w2.heap.size, 1, none⟩ = some (.int .i64 1) := (hb.cell (p := ⟨w2.heap.size, 1, none⟩) (by simp; try omega)).trans (by go_simp)
 have q1w4 : w4.frozen? ⟨w2.heap.size, 1, none⟩ = false := (hb.frozen (p := ⟨w2.heap.size, 1, none⟩) (by simp; try omega)).trans (by go_simp)
 have HBw4 := Aside0.mk hb
 clear hb
 go_wp2_with fail
 refine bodyPost_ret (v := .tuple #[.agg #[.int .i64 n, .int .i64 1], .int .i64 0]) (by simp [results, Tryd.results19, go_sem, hlt, hne, c0, c1, f0, f1, c0w4, c1w4, f0w4, f1w4, hltw4, hnew4, r0w4, r1w4, q0w4, q1w4, hluw4, hnuw4, hnv, hnw]) rfl ⟨rfl, ?_⟩
 have HB0 : Below w.heap.size w w2 := (by repeat (first | exact Below.refl _ _ | apply bA | apply bN | apply below_drew) : Below w.heap.size w _).trans (HB.out.mono (by simp))
 have HB1 : Below w.heap.size w w4 := (by repeat (first | exact HB0 | apply bA | apply bN | apply below_drew | refine Below.setCell ?_ (by simp; try omega) _) : Below w.heap.size w _).trans (HBw4.out.mono (by simp; try omega))
 repeat (first | exact HB1 | exact Below.refl _ _ | apply bA | apply bN | apply below_drew | refine Below.setCell ?_ (by simp; try omega) _)
set_option maxRecDepth 100000 in
set_option maxHeartbeats 4000000 in
theorem parse_b2 (s t b : ByteArray) (n : Int) (u : ByteArray) (g : Int) (w : World) (hG : GL w) (hs : s.size ≤ 140737488351232) (ht : t.size ≤ s.size) (hb0 : b.size ≤ s.size)
  (hc : cutAt s 47 = (t, b, false)) (hn : atoiV t = some n) (hx : rational_Text.f n 1 = some (u, g)) (hg : g = 0) (hu : u.toList ≠ s.toList) :
  Calls Tryd.prog 19 #[.string s] w fun e w' => e = .returned (.tuple #[.agg #[.int .i64 0, .int .i64 0], .int .i64 8]) ∧ Below w.heap.size w w' := by
 have hu24 := Tryd.underlying24
 have HC := Lib.hid (fun W => cut_one s 47 W (by omega))
 rw [hc] at HC
 have HA := Lib.hid (fun W => atoi_ok t n W (by omega) (atoiV_some hn))
 clear hn
 have HX := Lib.hid (fun W hW => rational_Text.calls n 1 u g W hW hx)
 clear hx
 subst hg
 have hub : (u.toList == s.toList) = false := by simp [hu]
 have hun : (!(u.toList == s.toList)) = true := by simp [hu]
 have HG := Aside0.mk hG
 clear hc hG
 go_enter Tryd.func19, Tryd.ntmps19
 go_wp2_with fail
 refine (HC.out _).mono ?_
 rintro e w1 ⟨rfl, ⟨m, rfl⟩⟩
 go_wp2_with fail
 refine (HA.out _).mono ?_
 rintro e w2 ⟨rfl, hb⟩
 have HB := Aside0.mk hb
 clear hb
 have hz := HB.out.size
 simp at hz
 have hlt : w.heap.size < w2.heap.size := by omega
 have hne : ¬ w.heap.size = w2.heap.size := by omega
 have c0 : w2.cell? ⟨w.heap.size, 0, none⟩ = some (.int .i64 0) := (HB.out.cell (p := ⟨w.heap.size, 0, none⟩) (by simp)).trans (by go_simp)
 have f0 : w2.frozen? ⟨w.heap.size, 0, none⟩ = false := (HB.out.frozen (p := ⟨w.heap.size, 0, none⟩) (by simp)).trans (by go_simp)
 have c1 : w2.cell? ⟨w.heap.size, 1, none⟩ = some (.int .i64 0) := (HB.out.cell (p := ⟨w.heap.size, 1, none⟩) (by simp)).trans (by go_simp)
 have f1 : w2.frozen? ⟨w.heap.size, 1, none⟩ = false := (HB.out.frozen (p := ⟨w.heap.size, 1, none⟩) (by simp)).trans (by go_simp)
 have HGW := Aside0.mk (GL.below HG.out.alloc.drewN HB.out)
 go_wp2_with fail
 refine (HX.out _ (GL.alloc HGW.out)).mono ?_
 rintro e w4 ⟨rfl, hb⟩
 have hzw4 := hb.size
 simp at hzw4
 have hltw4 : w.heap.size < w4.heap.size := by omega
 have hnew4 : ¬ w.heap.size = w4.heap.size := by omega
 have hluw4 : w2.heap.size < w4.heap.size := by omega
 have hnuw4 : ¬ w2.heap.size = w4.heap.size := by omega
 have hnv : ¬ w.heap.size = w2.heap.size := by omega
 have hnw : ¬ w2.heap.size = w.heap.size := by omega
 have c0w4 : w4.cell? ⟨w.heap.size, 0, none⟩ = some (.int .i64 0) := (hb.cell (p := ⟨w.heap.size, 0, none⟩) (by simp; omega)).trans (by go_simp)
 have f0w4 : w4.frozen? ⟨w.heap.size, 0, none⟩ = false := (hb.frozen (p := ⟨w.heap.size, 0, none⟩) (by simp; omega)).trans (by go_simp)
 have c1w4 : w4.cell? ⟨w.heap.size, 1, none⟩ = some (.int .i64 0) := (hb.cell (p := ⟨w.heap.size, 1, none⟩) (by simp; omega)).trans (by go_simp)
 have f1w4 : w4.frozen? ⟨w.heap.size, 1, none⟩ = false := (hb.frozen (p := ⟨w.heap.size, 1, none⟩) (by simp; omega)).trans (by go_simp)
 have r0w4 : w4.cell? ⟨w2.heap.size, 0, none⟩ = some (.int .i64 n) := (hb.cell (p := ⟨w2.heap.size, 0, none⟩) (by simp; try omega)).trans (by go_simp)
 have q0w4 : w4.frozen? ⟨w2.heap.size, 0, none⟩ = false := (hb.frozen (p := ⟨w2.heap.size, 0, none⟩) (by simp; try omega)).trans (by go_simp)
 have r1w4 : w4.cell? ⟨w2.heap.size, 1, none⟩ = some (.int .i64 1) := (hb.cell (p := ⟨w2.heap.size, 1, none⟩) (by simp; try omega)).trans (by go_simp)
 have q1w4 : w4.frozen? ⟨w2.heap.size, 1, none⟩ = false := (hb.frozen (p := ⟨w2.heap.size, 1, none⟩) (by simp; try omega)).trans (by go_simp)
 have HBw4 := Aside0.mk hb
 clear hb
 go_wp2_with fail
 refine bodyPost_ret (v := .tuple #[.agg #[.int .i64 0, .int .i64 0], .int .i64 8]) (by simp [results, Tryd.results19, go_sem, hlt, hne, c0, c1, f0, f1, c0w4, c1w4, f0w4, f1w4, hltw4, hnew4, r0w4, r1w4, q0w4, q1w4, hluw4, hnuw4, hnv, hnw]) rfl ⟨rfl, ?_⟩
 have HB0 : Below w.heap.size w w2 := (by repeat (first | exact Below.refl _ _ | apply bA | apply bN | apply below_drew) : Below w.heap.size w _).trans (HB.out.mono (by simp))
 have HB1 : Below w.heap.size w w4 := (by repeat (first | exact HB0 | apply bA | apply bN | apply below_drew | refine Below.setCell ?_ (by simp; try omega) _) : Below w.heap.size w _).trans (HBw4.out.mono (by simp; try omega))
 repeat (first | exact HB1 | exact Below.refl _ _ | apply bA | apply bN | apply below_drew | refine Below.setCell ?_ (by simp; try omega) _)
set_option maxRecDepth 100000 in
set_option maxHeartbeats 4000000 in
theorem parse_b3 (s t b : ByteArray) (n : Int) (u : ByteArray) (g : Int) (w : World) (hG : GL w) (hs : s.size ≤ 140737488351232) (ht : t.size ≤ s.size) (hb0 : b.size ≤ s.size)
  (hc : cutAt s 47 = (t, b, false)) (hn : atoiV t = some n) (hx : rational_Text.f n 1 = some (u, g)) (hg : g ≠ 0) :
  Calls Tryd.prog 19 #[.string s] w fun e w' => e = .returned (.tuple #[.agg #[.int .i64 0, .int .i64 0], .int .i64 8]) ∧ Below w.heap.size w w' := by
 have hu24 := Tryd.underlying24
 have HC := Lib.hid (fun W => cut_one s 47 W (by omega))
 rw [hc] at HC
 have HA := Lib.hid (fun W => atoi_ok t n W (by omega) (atoiV_some hn))
 clear hn
 have HX := Lib.hid (fun W hW => rational_Text.calls n 1 u g W hW hx)
 clear hx
 have hgn : (g == 0) = false := by simp [hg]
 have HG := Aside0.mk hG
 clear hc hG
 go_enter Tryd.func19, Tryd.ntmps19
 go_wp2_with fail
 refine (HC.out _).mono ?_
 rintro e w1 ⟨rfl, ⟨m, rfl⟩⟩
 go_wp2_with fail
 refine (HA.out _).mono ?_
 rintro e w2 ⟨rfl, hb⟩
 have HB := Aside0.mk hb
 clear hb
 have hz := HB.out.size
 simp at hz
 have hlt : w.heap.size < w2.heap.size := by omega
 have hne : ¬ w.heap.size = w2.heap.size := by omega
 have c0 : w2.cell? ⟨w.heap.size, 0, none⟩ = some (.int .i64 0) := (HB.out.cell (p := ⟨w.heap.size, 0, none⟩) (by simp)).trans (by go_simp)
 have f0 : w2.frozen? ⟨w.heap.size, 0, none⟩ = false := (HB.out.frozen (p := ⟨w.heap.size, 0, none⟩) (by simp)).trans (by go_simp)
 have c1 : w2.cell? ⟨w.heap.size, 1, none⟩ = some (.int .i64 0) := (HB.out.cell (p := ⟨w.heap.size, 1, none⟩) (by simp)).trans (by go_simp)
 have f1 : w2.frozen? ⟨w.heap.size, 1, none⟩ = false := (HB.out.frozen (p := ⟨w.heap.size, 1, none⟩) (by simp)).trans (by go_simp)
 have HGW := Aside0.mk (GL.below HG.out.alloc.drewN HB.out)
 go_wp2_with fail
 refine (HX.out _ (GL.alloc HGW.out)).mono ?_
 rintro e w4 ⟨rfl, hb⟩
 have hzw4 := hb.size
 simp at hzw4
 have hltw4 : w.heap.size < w4.heap.size := by omega
 have hnew4 : ¬ w.heap.size = w4.heap.size := by omega
 have hluw4 : w2.heap.size < w4.heap.size := by omega
 have hnuw4 : ¬ w2.heap.size = w4.heap.size := by omega
 have hnv : ¬ w.heap.size = w2.heap.size := by omega
 have hnw : ¬ w2.heap.size = w.heap.size := by omega
 have c0w4 : w4.cell? ⟨w.heap.size, 0, none⟩ = some (.int .i64 0) := (hb.cell (p := ⟨w.heap.size, 0, none⟩) (by simp; omega)).trans (by go_simp)
 have f0w4 : w4.frozen? ⟨w.heap.size, 0, none⟩ = false := (hb.frozen (p := ⟨w.heap.size, 0, none⟩) (by simp; omega)).trans (by go_simp)
 have c1w4 : w4.cell? ⟨w.heap.size, 1, none⟩ = some (.int .i64 0) := (hb.cell (p := ⟨w.heap.size, 1, none⟩) (by simp; omega)).trans (by go_simp)
 have f1w4 : w4.frozen? ⟨w.heap.size, 1, none⟩ = false := (hb.frozen (p := ⟨w.heap.size, 1, none⟩) (by simp; omega)).trans (by go_simp)
 have r0w4 : w4.cell? ⟨w2.heap.size, 0, none⟩ = some (.int .i64 n) := (hb.cell (p := ⟨w2.heap.size, 0, none⟩) (by simp; try omega)).trans (by go_simp)
 have q0w4 : w4.frozen? ⟨w2.heap.size, 0, none⟩ = false := (hb.frozen (p := ⟨w2.heap.size, 0, none⟩) (by simp; try omega)).trans (by go_simp)
 have r1w4 : w4.cell? ⟨w2.heap.size, 1, none⟩ = some (.int .i64 1) := (hb.cell (p := ⟨w2.heap.size, 1, none⟩) (by simp; try omega)).trans (by go_simp)
 have q1w4 : w4.frozen? ⟨w2.heap.size, 1, none⟩ = false := (hb.frozen (p := ⟨w2.heap.size, 1, none⟩) (by simp; try omega)).trans (by go_simp)
 have HBw4 := Aside0.mk hb
 clear hb
 go_wp2_with fail
 refine bodyPost_ret (v := .tuple #[.agg #[.int .i64 0, .int .i64 0], .int .i64 8]) (by simp [results, Tryd.results19, go_sem, hlt, hne, c0, c1, f0, f1, c0w4, c1w4, f0w4, f1w4, hltw4, hnew4, r0w4, r1w4, q0w4, q1w4, hluw4, hnuw4, hnv, hnw]) rfl ⟨rfl, ?_⟩
 have HB0 : Below w.heap.size w w2 := (by repeat (first | exact Below.refl _ _ | apply bA | apply bN | apply below_drew) : Below w.heap.size w _).trans (HB.out.mono (by simp))
 have HB1 : Below w.heap.size w w4 := (by repeat (first | exact HB0 | apply bA | apply bN | apply below_drew | refine Below.setCell ?_ (by simp; try omega) _) : Below w.heap.size w _).trans (HBw4.out.mono (by simp; try omega))
 repeat (first | exact HB1 | exact Below.refl _ _ | apply bA | apply bN | apply below_drew | refine Below.setCell ?_ (by simp; try omega) _)
set_option maxRecDepth 100000 in
set_option maxHeartbeats 4000000 in
theorem parse_c1 (s t b : ByteArray) (n : Int) (w : World) (hG : GL w) (hs : s.size ≤ 140737488351232) (ht : t.size ≤ s.size) (hb0 : b.size ≤ s.size)
  (hc : cutAt s 47 = (t, b, true)) (hn : atoiV t = some n) (hd : atoiV b = none) :
  Calls Tryd.prog 19 #[.string s] w fun e w' => e = .returned (.tuple #[.agg #[.int .i64 0, .int .i64 0], .int .i64 8]) ∧ Below w.heap.size w w' := by
 have hu24 := Tryd.underlying24
 have HC := Lib.hid (fun W => cut_one s 47 W (by omega))
 rw [hc] at HC
 have HA := Lib.hid (fun W => atoi_ok t n W (by omega) (atoiV_some hn))
 clear hn
 have HT := Lib.hid (fun W hW => atoi_err b W hW (by omega) (atoiV_none hd))
 clear hd
 have HG := Aside0.mk hG
 clear hc hG
 go_enter Tryd.func19, Tryd.ntmps19
 go_wp2_with fail
 refine (HC.out _).mono ?_
 rintro e w1 ⟨rfl, ⟨m, rfl⟩⟩
 go_wp2_with fail
 refine (HA.out _).mono ?_
 rintro e w2 ⟨rfl, hb⟩
 have HB := Aside0.mk hb
 clear hb
 have hz := HB.out.size
 simp at hz
 have hlt : w.heap.size < w2.heap.size := by omega
 have hne : ¬ w.heap.size = w2.heap.size := by omega
 have c0 : w2.cell? ⟨w.heap.size, 0, none⟩ = some (.int .i64 0) := (HB.out.cell (p := ⟨w.heap.size, 0, none⟩) (by simp)).trans (by go_simp)
 have f0 : w2.frozen? ⟨w.heap.size, 0, none⟩ = false := (HB.out.frozen (p := ⟨w.heap.size, 0, none⟩) (by simp)).trans (by go_simp)
 have c1 : w2.cell? ⟨w.heap.size, 1, none⟩ = some (.int .i64 0) := (HB.out.cell (p := ⟨w.heap.size, 1, none⟩) (by simp)).trans (by go_simp)
 have f1 : w2.frozen? ⟨w.heap.size, 1, none⟩ = false := (HB.out.frozen (p := ⟨w.heap.size, 1, none⟩) (by simp)).trans (by go_simp)
 have HGW := Aside0.mk (GL.below HG.out.alloc.drewN HB.out)
 go_wp2_with fail
 refine (HT.out _ (GL.alloc HGW.out)).mono ?_
 rintro e w3 ⟨x2, tp2, p2, rfl, hb⟩
 have hzw3 := hb.size
 simp at hzw3
 have hltw3 : w.heap.size < w3.heap.size := by omega
 have hnew3 : ¬ w.heap.size = w3.heap.size := by omega
 have hluw3 : w2.heap.size < w3.heap.size := by omega
 have hnuw3 : ¬ w2.heap.size = w3.heap.size := by omega
 have hnv : ¬ w.heap.size = w2.heap.size := by omega
 have hnw : ¬ w2.heap.size = w.heap.size := by omega
 have c0w3 : w3.cell? ⟨w.heap.size, 0, none⟩ = some (.int .i64 0) := (hb.cell (p := ⟨w.heap.size, 0, none⟩) (by simp; omega)).trans (by go_simp)
 have f0w3 : w3.frozen? ⟨w.heap.size, 0, none⟩ = false := (hb.frozen (p := ⟨w.heap.size, 0, none⟩) (by simp; omega)).trans (by go_simp)
 have c1w3 : w3.cell? ⟨w.heap.size, 1, none⟩ = some (.int .i64 0) := (hb.cell (p := ⟨w.heap.size, 1, none⟩) (by simp; omega)).trans (by go_simp)
 have f1w3 : w3.frozen? ⟨w.heap.size, 1, none⟩ = false := (hb.frozen (p := ⟨w.heap.size, 1, none⟩) (by simp; omega)).trans (by go_simp)
 have r0w3 : w3.cell? ⟨w2.heap.size, 0, none⟩ = some (.int .i64 n) := (hb.cell (p := ⟨w2.heap.size, 0, none⟩) (by simp; try omega)).trans (by go_simp)
 have q0w3 : w3.frozen? ⟨w2.heap.size, 0, none⟩ = false := (hb.frozen (p := ⟨w2.heap.size, 0, none⟩) (by simp; try omega)).trans (by go_simp)
 have r1w3 : w3.cell? ⟨w2.heap.size, 1, none⟩ = some (.int .i64 1) := (hb.cell (p := ⟨w2.heap.size, 1, none⟩) (by simp; try omega)).trans (by go_simp)
 have q1w3 : w3.frozen? ⟨w2.heap.size, 1, none⟩ = false := (hb.frozen (p := ⟨w2.heap.size, 1, none⟩) (by simp; try omega)).trans (by go_simp)
 have HBw3 := Aside0.mk hb
 clear hb
 go_wp2_with fail
 refine bodyPost_ret (v := .tuple #[.agg #[.int .i64 0, .int .i64 0], .int .i64 8]) (by simp [results, Tryd.results19, go_sem, hlt, hne, c0, c1, f0, f1, c0w3, c1w3, f0w3, f1w3, hltw3, hnew3, r0w3, r1w3, q0w3, q1w3, hluw3, hnuw3, hnv, hnw]) rfl ⟨rfl, ?_⟩
 have HB0 : Below w.heap.size w w2 := (by repeat (first | exact Below.refl _ _ | apply bA | apply bN | apply below_drew) : Below w.heap.size w _).trans (HB.out.mono (by simp))
 have HB1 : Below w.heap.size w w3 := (by repeat (first | exact HB0 | apply bA | apply bN | apply below_drew | refine Below.setCell ?_ (by simp; try omega) _) : Below w.heap.size w _).trans (HBw3.out.mono (by simp; try omega))
 repeat (first | exact HB1 | exact Below.refl _ _ | apply bA | apply bN | apply below_drew | refine Below.setCell ?_ (by simp; try omega) _)
set_option maxRecDepth 100000 in
set_option maxHeartbeats 4000000 in
theorem parse_c2 (s t b : ByteArray) (w : World) (hG : GL w) (hs : s.size ≤ 140737488351232) (ht : t.size ≤ s.size) (hb0 : b.size ≤ s.size)
  (hc : cutAt s 47 = (t, b, true)) (hn : atoiV t = none) (hd : atoiV b = none) :
  Calls Tryd.prog 19 #[.string s] w fun e w' => e = .returned (.tuple #[.agg #[.int .i64 0, .int .i64 0], .int .i64 8]) ∧ Below w.heap.size w w' := by
 have hu24 := Tryd.underlying24
 have HC := Lib.hid (fun W => cut_one s 47 W (by omega))
 rw [hc] at HC
 have HA := Lib.hid (fun W hW => atoi_err t W hW (by omega) (atoiV_none hn))
 clear hn
 have HT := Lib.hid (fun W hW => atoi_err b W hW (by omega) (atoiV_none hd))
 clear hd
 have HG := Aside0.mk hG
 clear hc hG
 go_enter Tryd.func19, Tryd.ntmps19
 go_wp2_with fail
 refine (HC.out _).mono ?_
 rintro e w1 ⟨rfl, ⟨m, rfl⟩⟩
 go_wp2_with fail
 refine (HA.out _ HG.out.alloc.drewN).mono ?_
 rintro e w2 ⟨x, tp, p, rfl, hb⟩
 have HB := Aside0.mk hb
 clear hb
 have hz := HB.out.size
 simp at hz
 have hlt : w.heap.size < w2.heap.size := by omega
 have hne : ¬ w.heap.size = w2.heap.size := by omega
 have c0 : w2.cell? ⟨w.heap.size, 0, none⟩ = some (.int .i64 0) := (HB.out.cell (p := ⟨w.heap.size, 0, none⟩) (by simp)).trans (by go_simp)
 have f0 : w2.frozen? ⟨w.heap.size, 0, none⟩ = false := (HB.out.frozen (p := ⟨w.heap.size, 0, none⟩) (by simp)).trans (by go_simp)
 have c1 : w2.cell? ⟨w.heap.size, 1, none⟩ = some (.int .i64 0) := (HB.out.cell (p := ⟨w.heap.size, 1, none⟩) (by simp)).trans (by go_simp)
 have f1 : w2.frozen? ⟨w.heap.size, 1, none⟩ = false := (HB.out.frozen (p := ⟨w.heap.size, 1, none⟩) (by simp)).trans (by go_simp)
 have HGW := Aside0.mk (GL.below HG.out.alloc.drewN HB.out)
 go_wp2_with fail
 refine (HT.out _ (GL.alloc HGW.out)).mono ?_
 rintro e w3 ⟨x2, tp2, p2, rfl, hb⟩
 have hzw3 := hb.size
 simp at hzw3
 have hltw3 : w.heap.size < w3.heap.size := by omega
 have hnew3 : ¬ w.heap.size = w3.heap.size := by omega
 have hluw3 : w2.heap.size < w3.heap.size := by omega
 have hnuw3 : ¬ w2.heap.size = w3.heap.size := by omega
 have hnv : ¬ w.heap.size = w2.heap.size := by omega
 have hnw : ¬ w2.heap.size = w.heap.size := by omega
 have c0w3 : w3.cell? ⟨w.heap.size, 0, none⟩ = some (.int .i64 0) := (hb.cell (p := ⟨w.heap.size, 0, none⟩) (by simp; omega)).trans (by go_simp)
 have f0w3 : w3.frozen? ⟨w.heap.size, 0, none⟩ = false := (hb.frozen (p := ⟨w.heap.size, 0, none⟩) (by simp; omega)).trans (by go_simp)
 have c1w3 : w3.cell? ⟨w.heap.size, 1, none⟩ = some (.int .i64 0) := (hb.cell (p := ⟨w.heap.size, 1, none⟩) (by simp; omega)).trans (by go_simp)
 have f1w3 : w3.frozen? ⟨w.heap.size, 1, none⟩ = false := (hb.frozen (p := ⟨w.heap.size, 1, none⟩) (by simp; omega)).trans (by go_simp)
 have r0w3 : w3.cell? ⟨w2.heap.size, 0, none⟩ = some (.int .i64 x) := (hb.cell (p := ⟨w2.heap.size, 0, none⟩) (by simp; try omega)).trans (by go_simp)
 have q0w3 : w3.frozen? ⟨w2.heap.size, 0, none⟩ = false := (hb.frozen (p := ⟨w2.heap.size, 0, none⟩) (by simp; try omega)).trans (by go_simp)
 have r1w3 : w3.cell? ⟨w2.heap.size, 1, none⟩ = some (.int .i64 1) := (hb.cell (p := ⟨w2.heap.size, 1, none⟩) (by simp; try omega)).trans (by go_simp)
 have q1w3 : w3.frozen? ⟨w2.heap.size, 1, none⟩ = false := (hb.frozen (p := ⟨w2.heap.size, 1, none⟩) (by simp; try omega)).trans (by go_simp)
 have HBw3 := Aside0.mk hb
 clear hb
 go_wp2_with fail
 refine bodyPost_ret (v := .tuple #[.agg #[.int .i64 0, .int .i64 0], .int .i64 8]) (by simp [results, Tryd.results19, go_sem, hlt, hne, c0, c1, f0, f1, c0w3, c1w3, f0w3, f1w3, hltw3, hnew3, r0w3, r1w3, q0w3, q1w3, hluw3, hnuw3, hnv, hnw]) rfl ⟨rfl, ?_⟩
 have HB0 : Below w.heap.size w w2 := (by repeat (first | exact Below.refl _ _ | apply bA | apply bN | apply below_drew) : Below w.heap.size w _).trans (HB.out.mono (by simp))
 have HB1 : Below w.heap.size w w3 := (by repeat (first | exact HB0 | apply bA | apply bN | apply below_drew | refine Below.setCell ?_ (by simp; try omega) _) : Below w.heap.size w _).trans (HBw3.out.mono (by simp; try omega))
 repeat (first | exact HB1 | exact Below.refl _ _ | apply bA | apply bN | apply below_drew | refine Below.setCell ?_ (by simp; try omega) _)
set_option maxRecDepth 100000 in
set_option maxHeartbeats 4000000 in
theorem parse_d (s t b : ByteArray) (d : Int) (w : World) (hG : GL w) (hs : s.size ≤ 140737488351232) (ht : t.size ≤ s.size) (hb0 : b.size ≤ s.size)
  (hc : cutAt s 47 = (t, b, true)) (hn : atoiV t = none) (hd : atoiV b = some d) :
  Calls Tryd.prog 19 #[.string s] w fun e w' => e = .returned (.tuple #[.agg #[.int .i64 0, .int .i64 0], .int .i64 8]) ∧ Below w.heap.size w w' := by
 have hu24 := Tryd.underlying24
 have HC := Lib.hid (fun W => cut_one s 47 W (by omega))
 rw [hc] at HC
 have HA := Lib.hid (fun W hW => atoi_err t W hW (by omega) (atoiV_none hn))
 clear hn
 have HT := Lib.hid (fun W => atoi_ok b d W (by omega) (atoiV_some hd))
 clear hd
 have HG := Aside0.mk hG
 clear hc hG
 go_enter Tryd.func19, Tryd.ntmps19
 go_wp2_with fail
 refine (HC.out _).mono ?_
 rintro e w1 ⟨rfl, ⟨m, rfl⟩⟩
 go_wp2_with fail
 refine (HA.out _ HG.out.alloc.drewN).mono ?_
 rintro e w2 ⟨x, tp, p, rfl, hb⟩
 have HB := Aside0.mk hb
 clear hb
 have hz := HB.out.size
 simp at hz
 have hlt : w.heap.size < w2.heap.size := by omega
 have hne : ¬ w.heap.size = w2.heap.size := by omega
 have c0 : w2.cell? ⟨w.heap.size, 0, none⟩ = some (.int .i64 0) := (HB.out.cell (p := ⟨w.heap.size, 0, none⟩) (by simp)).trans (by go_simp)
 have f0 : w2.frozen? ⟨w.heap.size, 0, none⟩ = false := (HB.out.frozen (p := ⟨w.heap.size, 0, none⟩) (by simp)).trans (by go_simp)
 have c1 : w2.cell? ⟨w.heap.size, 1, none⟩ = some (.int .i64 0) := (HB.out.cell (p := ⟨w.heap.size, 1, none⟩) (by simp)).trans (by go_simp)
 have f1 : w2.frozen? ⟨w.heap.size, 1, none⟩ = false := (HB.out.frozen (p := ⟨w.heap.size, 1, none⟩) (by simp)).trans (by go_simp)
 go_wp2_with fail
 refine (HT.out _).mono ?_
 rintro e w3 ⟨rfl, hb⟩
 have hzw3 := hb.size
 simp at hzw3
 have hltw3 : w.heap.size < w3.heap.size := by omega
 have hnew3 : ¬ w.heap.size = w3.heap.size := by omega
 have hluw3 : w2.heap.size < w3.heap.size := by omega
 have hnuw3 : ¬ w2.heap.size = w3.heap.size := by omega
 have hnv : ¬ w.heap.size = w2.heap.size := by omega
 have hnw : ¬ w2.heap.size = w.heap.size := by omega
 have c0w3 : w3.cell? ⟨w.heap.size, 0, none⟩ = some (.int .i64 0) := (hb.cell (p := ⟨w.heap.size, 0, none⟩) (by simp; omega)).trans (by go_simp)
 have f0w3 : w3.frozen? ⟨w.heap.size, 0, none⟩ = false := (hb.frozen (p := ⟨w.heap.size, 0, none⟩) (by simp; omega)).trans (by go_simp)
 have c1w3 : w3.cell? ⟨w.heap.size, 1, none⟩ = some (.int .i64 0) := (hb.cell (p := ⟨w.heap.size, 1, none⟩) (by simp; omega)).trans (by go_simp)
 have f1w3 : w3.frozen? ⟨w.heap.size, 1, none⟩ = false := (hb.frozen (p := ⟨w.heap.size, 1, none⟩) (by simp; omega)).trans (by go_simp)
 have r0w3 : w3.cell? ⟨w2.heap.size, 0, none⟩ = some (.int .i64 x) := (hb.cell (p := ⟨w2.heap.size, 0, none⟩) (by simp; try omega)).trans (by go_simp)
 have q0w3 : w3.frozen? ⟨w2.heap.size, 0, none⟩ = false := (hb.frozen (p := ⟨w2.heap.size, 0, none⟩) (by simp; try omega)).trans (by go_simp)
 have r1w3 : w3.cell? ⟨w2.heap.size, 1, none⟩ = some (.int .i64 1) := (hb.cell (p := ⟨w2.heap.size, 1, none⟩) (by simp; try omega)).trans (by go_simp)
 have q1w3 : w3.frozen? ⟨w2.heap.size, 1, none⟩ = false := (hb.frozen (p := ⟨w2.heap.size, 1, none⟩) (by simp; try omega)).trans (by go_simp)
 have HBw3 := Aside0.mk hb
 clear hb
 go_wp2_with fail
 refine bodyPost_ret (v := .tuple #[.agg #[.int .i64 0, .int .i64 0], .int .i64 8]) (by simp [results, Tryd.results19, go_sem, hlt, hne, c0, c1, f0, f1, c0w3, c1w3, f0w3, f1w3, hltw3, hnew3, r0w3, r1w3, q0w3, q1w3, hluw3, hnuw3, hnv, hnw]) rfl ⟨rfl, ?_⟩
 have HB0 : Below w.heap.size w w2 := (by repeat (first | exact Below.refl _ _ | apply bA | apply bN | apply below_drew) : Below w.heap.size w _).trans (HB.out.mono (by simp))
 have HB1 : Below w.heap.size w w3 := (by repeat (first | exact HB0 | apply bA | apply bN | apply below_drew | refine Below.setCell ?_ (by simp; try omega) _) : Below w.heap.size w _).trans (HBw3.out.mono (by simp; try omega))
 repeat (first | exact HB1 | exact Below.refl _ _ | apply bA | apply bN | apply below_drew | refine Below.setCell ?_ (by simp; try omega) _)
set_option maxRecDepth 100000 in
set_option maxHeartbeats 4000000 in
theorem parse_e1 (s t b : ByteArray) (n d : Int) (u : ByteArray) (g : Int) (w : World) (hG : GL w) (hs : s.size ≤ 140737488351232) (ht : t.size ≤ s.size) (hb0 : b.size ≤ s.size)
  (hc : cutAt s 47 = (t, b, true)) (hn : atoiV t = some n) (hd : atoiV b = some d) (hx : rational_Text.f n d = some (u, g)) (hg : g = 0) (hu : u.toList = s.toList) :
  Calls Tryd.prog 19 #[.string s] w fun e w' => e = .returned (.tuple #[.agg #[.int .i64 n, .int .i64 d], .int .i64 0]) ∧ Below w.heap.size w w' := by
 have hu24 := Tryd.underlying24
 have HC := Lib.hid (fun W => cut_one s 47 W (by omega))
 rw [hc] at HC
 have HA := Lib.hid (fun W => atoi_ok t n W (by omega) (atoiV_some hn))
 clear hn
 have HT := Lib.hid (fun W => atoi_ok b d W (by omega) (atoiV_some hd))
 clear hd
 have HX := Lib.hid (fun W hW => rational_Text.calls n d u g W hW hx)
 clear hx
 subst hg
 have hub : (u.toList == s.toList) = true := by simp [hu]
 have hun : (!(u.toList == s.toList)) = false := by simp [hu]
 replace hu := Aside0.mk hu
 have HG := Aside0.mk hG
 clear hc hG
 go_enter Tryd.func19, Tryd.ntmps19
 go_wp2_with fail
 refine (HC.out _).mono ?_
 rintro e w1 ⟨rfl, ⟨m, rfl⟩⟩
 go_wp2_with fail
 refine (HA.out _).mono ?_
 rintro e w2 ⟨rfl, hb⟩
 have HB := Aside0.mk hb
 clear hb
 have hz := HB.out.size
 simp at hz
 have hlt : w.heap.size < w2.heap.size := by omega
 have hne : ¬ w.heap.size = w2.heap.size := by omega
 have c0 : w2.cell? ⟨w.heap.size, 0, none⟩ = some (.int .i64 0) := (HB.out.cell (p := ⟨w.heap.size, 0, none⟩) (by simp)).trans (by go_simp)
 have f0 : w2.frozen? ⟨w.heap.size, 0, none⟩ = false := (HB.out.frozen (p := ⟨w.heap.size, 0, none⟩) (by simp)).trans (by go_simp)
 have c1 : w2.cell? ⟨w.heap.size, 1, none⟩ = some (.int .i64 0) := (HB.out.cell (p := ⟨w.heap.size, 1, none⟩) (by simp)).trans (by go_simp)
 have f1 : w2.frozen? ⟨w.heap.size, 1, none⟩ = false := (HB.out.frozen (p := ⟨w.heap.size, 1, none⟩) (by simp)).trans (by go_simp)
 have HGW := Aside0.mk (GL.below HG.out.alloc.drewN HB.out)
 go_wp2_with fail
 refine (HT.out _).mono ?_
 rintro e w3 ⟨rfl, hb⟩
 have hzw3 := hb.size
 simp at hzw3
 have hltw3 : w.heap.size < w3.heap.size := by omega
 have hnew3 : ¬ w.heap.size = w3.heap.size := by omega
 have hluw3 : w2.heap.size < w3.heap.size := by omega
 have hnuw3 : ¬ w2.heap.size = w3.heap.size := by omega
 have hnv : ¬ w.heap.size = w2.heap.size := by omega
 have hnw : ¬ w2.heap.size = w.heap.size := by omega
 have c0w3 : w3.cell? ⟨w.heap.size, 0, none⟩ = some (.int .i64 0) := (hb.cell (p := ⟨w.heap.size, 0, none⟩) (by simp; omega)).trans (by go_simp)
 have f0w3 : w3.frozen? ⟨w.heap.size, 0, none⟩ = false := (hb.frozen (p := ⟨w.heap.size, 0, none⟩) (by simp; omega)).trans (by go_simp)
 have c1w3 : w3.cell? ⟨w.heap.size, 1, none⟩ = some (.int .i64 0) := (hb.cell (p := ⟨w.heap.size, 1, none⟩) (by simp; omega)).trans (by go_simp)
 have f1w3 : w3.frozen? ⟨w.heap.size, 1, none⟩ = false := (hb.frozen (p := ⟨w.heap.size, 1, none⟩) (by simp; omega)).trans (by go_simp)
 have r0w3 : w3.cell? ⟨w2.heap.size, 0, none⟩ = some (.int .i64 n) := (hb.cell (p := ⟨w2.heap.size, 0, none⟩) (by simp; try omega)).trans (by go_simp)
 have q0w3 : w3.frozen? ⟨w2.heap.size, 0, none⟩ = false := (hb.frozen (p := ⟨w2.heap.size, 0, none⟩) (by simp; try omega)).trans (by go_simp)
 have r1w3 : w3.cell? ⟨w2.heap.size, 1, none⟩ = some (.int .i64 1) := (hb.cell (p := ⟨w2.heap.size, 1, none⟩) (by simp; try omega)).trans (by go_simp)
 have q1w3 : w3.frozen? ⟨w2.heap.size, 1, none⟩ = false := (hb.frozen (p := ⟨w2.heap.size, 1, none⟩) (by simp; try omega)).trans (by go_simp)
 have HBw3 := Aside0.mk hb
 clear hb
 have HW2 : Below w.heap.size w w2 := (by repeat (first | exact Below.refl _ _ | apply bA | apply bN | apply below_drew) : Below w.heap.size w _).trans (HB.out.mono (by simp))
 have HW3 := Aside0.mk ((bA HW2 (.cells #[.int .i64 n, .int .i64 1] 24)).trans (HBw3.out.mono (by simp; try omega)))
 clear HW2
 go_wp2_with fail
 refine (HX.out _ (HG.out.below (HW3.out.setCell (by simp; try omega) _))).mono ?_
 rintro e w4 ⟨rfl, hb⟩
 have hzw4 := hb.size
 simp at hzw4
 have hltw4 : w.heap.size < w4.heap.size := by omega
 have hnew4 : ¬ w.heap.size = w4.heap.size := by omega
 have hluw4 : w2.heap.size < w4.heap.size := by omega
 have hnuw4 : ¬ w2.heap.size = w4.heap.size := by omega
 have c0w4 : w4.cell? ⟨w.heap.size, 0, none⟩ = some (.int .i64 0) := (hb.cell (p := ⟨w.heap.size, 0, none⟩) (by simp; omega)).trans (by go_simp)
 have f0w4 : w4.frozen? ⟨w.heap.size, 0, none⟩ = false := (hb.frozen (p := ⟨w.heap.size, 0, none⟩) (by simp; omega)).trans (by go_simp)
 have c1w4 : w4.cell? ⟨w.heap.size, 1, none⟩ = some (.int .i64 0) := (hb.cell (p := ⟨w.heap.size, 1, none⟩) (by simp; omega)).trans (by go_simp)
 have f1w4 : w4.frozen? ⟨w.heap.size, 1, none⟩ = false := (hb.frozen (p := ⟨w.heap.size, 1, none⟩) (by simp; omega)).trans (by go_simp)
 have r0w4 : w4.cell? ⟨w2.heap.size, 0, none⟩ = some (.int .i64 n) := (hb.cell (p := ⟨w2.heap.size, 0, none⟩) (by simp; try omega)).trans (by go_simp)
 have q0w4 : w4.frozen? ⟨w2.heap.size, 0, none⟩ = false := (hb.frozen (p := ⟨w2.heap.size, 0, none⟩) (by simp; try omega)).trans (by go_simp)
 have r1w4 : w4.cell? ⟨w2.heap.size, 1, none⟩ = some (.int .i64 d) := (hb.cell (p := ⟨w2.heap.size, 1, none⟩) (by simp; try omega)).trans (by go_simp)
 have q1w4 : w4.frozen? ⟨w2.heap.size, 1, none⟩ = false := (hb.frozen (p := ⟨w2.heap.size, 1, none⟩) (by simp; try omega)).trans (by go_simp)
 have HBw4 := Aside0.mk hb
 clear hb
 go_wp2_with fail
 refine bodyPost_ret (v := .tuple #[.agg #[.int .i64 n, .int .i64 d], .int .i64 0]) (by simp [results, Tryd.results19, go_sem, hlt, hne, c0, c1, f0, f1, c0w3, c1w3, f0w3, f1w3, hltw3, hnew3, r0w3, r1w3, q0w3, q1w3, hluw3, hnuw3, c0w4, c1w4, f0w4, f1w4, hltw4, hnew4, r0w4, r1w4, q0w4, q1w4, hluw4, hnuw4, hnv, hnw]) rfl ⟨rfl, ?_⟩
 have HB0 : Below w.heap.size w w2 := (by repeat (first | exact Below.refl _ _ | apply bA | apply bN | apply below_drew) : Below w.heap.size w _).trans (HB.out.mono (by simp))
 have HB1 : Below w.heap.size w w3 := (by repeat (first | exact HB0 | apply bA | apply bN | apply below_drew | refine Below.setCell ?_ (by simp; try omega) _) : Below w.heap.size w _).trans (HBw3.out.mono (by simp; try omega))
 have HB2 : Below w.heap.size w w4 := (by repeat (first | exact HB1 | apply bA | apply bN | apply below_drew | refine Below.setCell ?_ (by simp; try omega) _) : Below w.heap.size w _).trans (HBw4.out.mono (by simp; try omega))
 repeat (first | exact HB2 | exact Below.refl _ _ | apply bA | apply bN | apply below_drew | refine Below.setCell ?_ (by simp; try omega) _)
set_option maxRecDepth 100000 in
set_option maxHeartbeats 4000000 in
theorem parse_e2 (s t b : ByteArray) (n d : Int) (u : ByteArray) (g : Int) (w : World) (hG : GL w) (hs : s.size ≤ 140737488351232) (ht : t.size ≤ s.size) (hb0 : b.size ≤ s.size)
  (hc : cutAt s 47 = (t, b, true)) (hn : atoiV t = some n) (hd : atoiV b = some d) (hx : rational_Text.f n d = some (u, g)) (hg : g = 0) (hu : u.toList ≠ s.toList) :
  Calls Tryd.prog 19 #[.string s] w fun e w' => e = .returned (.tuple #[.agg #[.int .i64 0, .int .i64 0], .int .i64 8]) ∧ Below w.heap.size w w' := by
 have hu24 := Tryd.underlying24
 have HC := Lib.hid (fun W => cut_one s 47 W (by omega))
 rw [hc] at HC
 have HA := Lib.hid (fun W => atoi_ok t n W (by omega) (atoiV_some hn))
 clear hn
 have HT := Lib.hid (fun W => atoi_ok b d W (by omega) (atoiV_some hd))
 clear hd
 have HX := Lib.hid (fun W hW => rational_Text.calls n d u g W hW hx)
 clear hx
 subst hg
 have hub : (u.toList == s.toList) = false := by simp [hu]
 have hun : (!(u.toList == s.toList)) = true := by simp [hu]
 have HG := Aside0.mk hG
 clear hc hG
 go_enter Tryd.func19, Tryd.ntmps19
 go_wp2_with fail
 refine (HC.out _).mono ?_
 rintro e w1 ⟨rfl, ⟨m, rfl⟩⟩
 go_wp2_with fail
 refine (HA.out _).mono ?_
 rintro e w2 ⟨rfl, hb⟩
 have HB := Aside0.mk hb
 clear hb
 have hz := HB.out.size
 simp at hz
 have hlt : w.heap.size < w2.heap.size := by omega
 have hne : ¬ w.heap.size = w2.heap.size := by omega
 have c0 : w2.cell? ⟨w.heap.size, 0, none⟩ = some (.int .i64 0) := (HB.out.cell (p := ⟨w.heap.size, 0, none⟩) (by simp)).trans (by go_simp)
 have f0 : w2.frozen? ⟨w.heap.size, 0, none⟩ = false := (HB.out.frozen (p := ⟨w.heap.size, 0, none⟩) (by simp)).trans (by go_simp)
 have c1 : w2.cell? ⟨w.heap.size, 1, none⟩ = some (.int .i64 0) := (HB.out.cell (p := ⟨w.heap.size, 1, none⟩) (by simp)).trans (by go_simp)
 have f1 : w2.frozen? ⟨w.heap.size, 1, none⟩ = false := (HB.out.frozen (p := ⟨w.heap.size, 1, none⟩) (by simp)).trans (by go_simp)
 have HGW := Aside0.mk (GL.below HG.out.alloc.drewN HB.out)
 go_wp2_with fail
 refine (HT.out _).mono ?_
 rintro e w3 ⟨rfl, hb⟩
 have hzw3 := hb.size
 simp at hzw3
 have hltw3 : w.heap.size < w3.heap.size := by omega
 have hnew3 : ¬ w.heap.size = w3.heap.size := by omega
 have hluw3 : w2.heap.size < w3.heap.size := by omega
 have hnuw3 : ¬ w2.heap.size = w3.heap.size := by omega
 have hnv : ¬ w.heap.size = w2.heap.size := by omega
 have hnw : ¬ w2.heap.size = w.heap.size := by omega
 have c0w3 : w3.cell? ⟨w.heap.size, 0, none⟩ = some (.int .i64 0) := (hb.cell (p := ⟨w.heap.size, 0, none⟩) (by simp; omega)).trans (by go_simp)
 have f0w3 : w3.frozen? ⟨w.heap.size, 0, none⟩ = false := (hb.frozen (p := ⟨w.heap.size, 0, none⟩) (by simp; omega)).trans (by go_simp)
 have c1w3 : w3.cell? ⟨w.heap.size, 1, none⟩ = some (.int .i64 0) := (hb.cell (p := ⟨w.heap.size, 1, none⟩) (by simp; omega)).trans (by go_simp)
 have f1w3 : w3.frozen? ⟨w.heap.size, 1, none⟩ = false := (hb.frozen (p := ⟨w.heap.size, 1, none⟩) (by simp; omega)).trans (by go_simp)
 have r0w3 : w3.cell? ⟨w2.heap.size, 0, none⟩ = some (.int .i64 n) := (hb.cell (p := ⟨w2.heap.size, 0, none⟩) (by simp; try omega)).trans (by go_simp)
 have q0w3 : w3.frozen? ⟨w2.heap.size, 0, none⟩ = false := (hb.frozen (p := ⟨w2.heap.size, 0, none⟩) (by simp; try omega)).trans (by go_simp)
 have r1w3 : w3.cell? ⟨w2.heap.size, 1, none⟩ = some (.int .i64 1) := (hb.cell (p := ⟨w2.heap.size, 1, none⟩) (by simp; try omega)).trans (by go_simp)
 have q1w3 : w3.frozen? ⟨w2.heap.size, 1, none⟩ = false := (hb.frozen (p := ⟨w2.heap.size, 1, none⟩) (by simp; try omega)).trans (by go_simp)
 have HBw3 := Aside0.mk hb
 clear hb
 have HW2 : Below w.heap.size w w2 := (by repeat (first | exact Below.refl _ _ | apply bA | apply bN | apply below_drew) : Below w.heap.size w _).trans (HB.out.mono (by simp))
 have HW3 := Aside0.mk ((bA HW2 (.cells #[.int .i64 n, .int .i64 1] 24)).trans (HBw3.out.mono (by simp; try omega)))
 clear HW2
 go_wp2_with fail
 refine (HX.out _ (HG.out.below (HW3.out.setCell (by simp; try omega) _))).mono ?_
 rintro e w4 ⟨rfl, hb⟩
 have hzw4 := hb.size
 simp at hzw4
 have hltw4 : w.heap.size < w4.heap.size := by omega
 have hnew4 : ¬ w.heap.size = w4.heap.size := by omega
 have hluw4 : w2.heap.size < w4.heap.size := by omega
 have hnuw4 : ¬ w2.heap.size = w4.heap.size := by omega
 have c0w4 : w4.cell? ⟨w.heap.size, 0, none⟩ = some (.int .i64 0) := (hb.cell (p := ⟨w.heap.size, 0, none⟩) (by simp; omega)).trans (by go_simp)
 have f0w4 : w4.frozen? ⟨w.heap.size, 0, none⟩ = false := (hb.frozen (p := ⟨w.heap.size, 0, none⟩) (by simp; omega)).trans (by go_simp)
 have c1w4 : w4.cell? ⟨w.heap.size, 1, none⟩ = some (.int .i64 0) := (hb.cell (p := ⟨w.heap.size, 1, none⟩) (by simp; omega)).trans (by go_simp)
 have f1w4 : w4.frozen? ⟨w.heap.size, 1, none⟩ = false := (hb.frozen (p := ⟨w.heap.size, 1, none⟩) (by simp; omega)).trans (by go_simp)
 have r0w4 : w4.cell? ⟨w2.heap.size, 0, none⟩ = some (.int .i64 n) := (hb.cell (p := ⟨w2.heap.size, 0, none⟩) (by simp; try omega)).trans (by go_simp)
 have q0w4 : w4.frozen? ⟨w2.heap.size, 0, none⟩ = false := (hb.frozen (p := ⟨w2.heap.size, 0, none⟩) (by simp; try omega)).trans (by go_simp)
 have r1w4 : w4.cell? ⟨w2.heap.size, 1, none⟩ = some (.int .i64 d) := (hb.cell (p := ⟨w2.heap.size, 1, none⟩) (by simp; try omega)).trans (by go_simp)
 have q1w4 : w4.frozen? ⟨w2.heap.size, 1, none⟩ = false := (hb.frozen (p := ⟨w2.heap.size, 1, none⟩) (by simp; try omega)).trans (by go_simp)
 have HBw4 := Aside0.mk hb
 clear hb
 go_wp2_with fail
 refine bodyPost_ret (v := .tuple #[.agg #[.int .i64 0, .int .i64 0], .int .i64 8]) (by simp [results, Tryd.results19, go_sem, hlt, hne, c0, c1, f0, f1, c0w3, c1w3, f0w3, f1w3, hltw3, hnew3, r0w3, r1w3, q0w3, q1w3, hluw3, hnuw3, c0w4, c1w4, f0w4, f1w4, hltw4, hnew4, r0w4, r1w4, q0w4, q1w4, hluw4, hnuw4, hnv, hnw]) rfl ⟨rfl, ?_⟩
 have HB0 : Below w.heap.size w w2 := (by repeat (first | exact Below.refl _ _ | apply bA | apply bN | apply below_drew) : Below w.heap.size w _).trans (HB.out.mono (by simp))
 have HB1 : Below w.heap.size w w3 := (by repeat (first | exact HB0 | apply bA | apply bN | apply below_drew | refine Below.setCell ?_ (by simp; try omega) _) : Below w.heap.size w _).trans (HBw3.out.mono (by simp; try omega))
 have HB2 : Below w.heap.size w w4 := (by repeat (first | exact HB1 | apply bA | apply bN | apply below_drew | refine Below.setCell ?_ (by simp; try omega) _) : Below w.heap.size w _).trans (HBw4.out.mono (by simp; try omega))
 repeat (first | exact HB2 | exact Below.refl _ _ | apply bA | apply bN | apply below_drew | refine Below.setCell ?_ (by simp; try omega) _)
set_option maxRecDepth 100000 in
set_option maxHeartbeats 4000000 in
theorem parse_e3 (s t b : ByteArray) (n d : Int) (u : ByteArray) (g : Int) (w : World) (hG : GL w) (hs : s.size ≤ 140737488351232) (ht : t.size ≤ s.size) (hb0 : b.size ≤ s.size)
  (hc : cutAt s 47 = (t, b, true)) (hn : atoiV t = some n) (hd : atoiV b = some d) (hx : rational_Text.f n d = some (u, g)) (hg : g ≠ 0) :
  Calls Tryd.prog 19 #[.string s] w fun e w' => e = .returned (.tuple #[.agg #[.int .i64 0, .int .i64 0], .int .i64 8]) ∧ Below w.heap.size w w' := by
 have hu24 := Tryd.underlying24
 have HC := Lib.hid (fun W => cut_one s 47 W (by omega))
 rw [hc] at HC
 have HA := Lib.hid (fun W => atoi_ok t n W (by omega) (atoiV_some hn))
 clear hn
 have HT := Lib.hid (fun W => atoi_ok b d W (by omega) (atoiV_some hd))
 clear hd
 have HX := Lib.hid (fun W hW => rational_Text.calls n d u g W hW hx)
 clear hx
 have hgn : (g == 0) = false := by simp [hg]
 have HG := Aside0.mk hG
 clear hc hG
 go_enter Tryd.func19, Tryd.ntmps19
 go_wp2_with fail
 refine (HC.out _).mono ?_
 rintro e w1 ⟨rfl, ⟨m, rfl⟩⟩
 go_wp2_with fail
 refine (HA.out _).mono ?_
 rintro e w2 ⟨rfl, hb⟩
 have HB := Aside0.mk hb
 clear hb
 have hz := HB.out.size
 simp at hz
 have hlt : w.heap.size < w2.heap.size := by omega
 have hne : ¬ w.heap.size = w2.heap.size := by omega
 have c0 : w2.cell? ⟨w.heap.size, 0, none⟩ = some (.int .i64 0) := (HB.out.cell (p := ⟨w.heap.size, 0, none⟩) (by simp)).trans (by go_simp)
 have f0 : w2.frozen? ⟨w.heap.size, 0, none⟩ = false := (HB.out.frozen (p := ⟨w.heap.size, 0, none⟩) (by simp)).trans (by go_simp)
 have c1 : w2.cell? ⟨w.heap.size, 1, none⟩ = some (.int .i64 0) := (HB.out.cell (p := ⟨w.heap.size, 1, none⟩) (by simp)).trans (by go_simp)
 have f1 : w2.frozen? ⟨w.heap.size, 1, none⟩ = false := (HB.out.frozen (p := ⟨w.heap.size, 1, none⟩) (by simp)).trans (by go_simp)
 have HGW := Aside0.mk (GL.below HG.out.alloc.drewN HB.out)
 go_wp2_with fail
 refine (HT.out _).mono ?_
 rintro e w3 ⟨rfl, hb⟩
 have hzw3 := hb.size
 simp at hzw3
 have hltw3 : w.heap.size < w3.heap.size := by omega
 have hnew3 : ¬ w.heap.size = w3.heap.size := by omega
 have hluw3 : w2.heap.size < w3.heap.size := by omega
 have hnuw3 : ¬ w2.heap.size = w3.heap.size := by omega
 have hnv : ¬ w.heap.size = w2.heap.size := by omega
 have hnw : ¬ w2.heap.size = w.heap.size := by omega
 have c0w3 : w3.cell? ⟨w.heap.size, 0, none⟩ = some (.int .i64 0) := (hb.cell (p := ⟨w.heap.size, 0, none⟩) (by simp; omega)).trans (by go_simp)
 have f0w3 : w3.frozen? ⟨w.heap.size, 0, none⟩ = false := (hb.frozen (p := ⟨w.heap.size, 0, none⟩) (by simp; omega)).trans (by go_simp)
 have c1w3 : w3.cell? ⟨w.heap.size, 1, none⟩ = some (.int .i64 0) := (hb.cell (p := ⟨w.heap.size, 1, none⟩) (by simp; omega)).trans (by go_simp)
 have f1w3 : w3.frozen? ⟨w.heap.size, 1, none⟩ = false := (hb.frozen (p := ⟨w.heap.size, 1, none⟩) (by simp; omega)).trans (by go_simp)
 have r0w3 : w3.cell? ⟨w2.heap.size, 0, none⟩ = some (.int .i64 n) := (hb.cell (p := ⟨w2.heap.size, 0, none⟩) (by simp; try omega)).trans (by go_simp)
 have q0w3 : w3.frozen? ⟨w2.heap.size, 0, none⟩ = false := (hb.frozen (p := ⟨w2.heap.size, 0, none⟩) (by simp; try omega)).trans (by go_simp)
 have r1w3 : w3.cell? ⟨w2.heap.size, 1, none⟩ = some (.int .i64 1) := (hb.cell (p := ⟨w2.heap.size, 1, none⟩) (by simp; try omega)).trans (by go_simp)
 have q1w3 : w3.frozen? ⟨w2.heap.size, 1, none⟩ = false := (hb.frozen (p := ⟨w2.heap.size, 1, none⟩) (by simp; try omega)).trans (by go_simp)
 have HBw3 := Aside0.mk hb
 clear hb
 have HW2 : Below w.heap.size w w2 := (by repeat (first | exact Below.refl _ _ | apply bA | apply bN | apply below_drew) : Below w.heap.size w _).trans (HB.out.mono (by simp))
 have HW3 := Aside0.mk ((bA HW2 (.cells #[.int .i64 n, .int .i64 1] 24)).trans (HBw3.out.mono (by simp; try omega)))
 clear HW2
 go_wp2_with fail
 refine (HX.out _ (HG.out.below (HW3.out.setCell (by simp; try omega) _))).mono ?_
 rintro e w4 ⟨rfl, hb⟩
 have hzw4 := hb.size
 simp at hzw4
 have hltw4 : w.heap.size < w4.heap.size := by omega
 have hnew4 : ¬ w.heap.size = w4.heap.size := by omega
 have hluw4 : w2.heap.size < w4.heap.size := by omega
 have hnuw4 : ¬ w2.heap.size = w4.heap.size := by omega
 have c0w4 : w4.cell? ⟨w.heap.size, 0, none⟩ = some (.int .i64 0) := (hb.cell (p := ⟨w.heap.size, 0, none⟩) (by simp; omega)).trans (by go_simp)
 have f0w4 : w4.frozen? ⟨w.heap.size, 0, none⟩ = false := (hb.frozen (p := ⟨w.heap.size, 0, none⟩) (by simp; omega)).trans (by go_simp)
 have c1w4 : w4.cell? ⟨w.heap.size, 1, none⟩ = some (.int .i64 0) := (hb.cell (p := ⟨w.heap.size, 1, none⟩) (by simp; omega)).trans (by go_simp)
 have f1w4 : w4.frozen? ⟨w.heap.size, 1, none⟩ = false := (hb.frozen (p := ⟨w.heap.size, 1, none⟩) (by simp; omega)).trans (by go_simp)
 have r0w4 : w4.cell? ⟨w2.heap.size, 0, none⟩ = some (.int .i64 n) := (hb.cell (p := ⟨w2.heap.size, 0, none⟩) (by simp; try omega)).trans (by go_simp)
 have q0w4 : w4.frozen? ⟨w2.heap.size, 0, none⟩ = false := (hb.frozen (p := ⟨w2.heap.size, 0, none⟩) (by simp; try omega)).trans (by go_simp)
 have r1w4 : w4.cell? ⟨w2.heap.size, 1, none⟩ = some (.int .i64 d) := (hb.cell (p := ⟨w2.heap.size, 1, none⟩) (by simp; try omega)).trans (by go_simp)
 have q1w4 : w4.frozen? ⟨w2.heap.size, 1, none⟩ = false := (hb.frozen (p := ⟨w2.heap.size, 1, none⟩) (by simp; try omega)).trans (by go_simp)
 have HBw4 := Aside0.mk hb
 clear hb
 go_wp2_with fail
 refine bodyPost_ret (v := .tuple #[.agg #[.int .i64 0, .int .i64 0], .int .i64 8]) (by simp [results, Tryd.results19, go_sem, hlt, hne, c0, c1, f0, f1, c0w3, c1w3, f0w3, f1w3, hltw3, hnew3, r0w3, r1w3, q0w3, q1w3, hluw3, hnuw3, c0w4, c1w4, f0w4, f1w4, hltw4, hnew4, r0w4, r1w4, q0w4, q1w4, hluw4, hnuw4, hnv, hnw]) rfl ⟨rfl, ?_⟩
 have HB0 : Below w.heap.size w w2 := (by repeat (first | exact Below.refl _ _ | apply bA | apply bN | apply below_drew) : Below w.heap.size w _).trans (HB.out.mono (by simp))
 have HB1 : Below w.heap.size w w3 := (by repeat (first | exact HB0 | apply bA | apply bN | apply below_drew | refine Below.setCell ?_ (by simp; try omega) _) : Below w.heap.size w _).trans (HBw3.out.mono (by simp; try omega))
 have HB2 : Below w.heap.size w w4 := (by repeat (first | exact HB1 | apply bA | apply bN | apply below_drew | refine Below.setCell ?_ (by simp; try omega) _) : Below w.heap.size w _).trans (HBw4.out.mono (by simp; try omega))
 repeat (first | exact HB2 | exact Below.refl _ _ | apply bA | apply bN | apply below_drew | refine Below.setCell ?_ (by simp; try omega) _)
theorem cutAt_size (s : ByteArray) (c : UInt8) : (cutAt s c).1.size ≤ s.size ∧ (cutAt s c).2.1.size ≤ s.size := by
 unfold cutAt
 split
 ·simp only [ByteArray.size_extract]
  omega
 ·exact ⟨Nat.le_refl _, Nat.zero_le _⟩
def rational_Parse.f (a0 : ByteArray) : Option (Int × Int × Int) := if a0.size ≤ 140737488351232 then ratParse a0 else none
theorem rational_Parse.calls (a0 : ByteArray) (r1 r2 r3 : Int) (w : World) (hG : GL w) (h : rational_Parse.f a0 = some (r1, r2, r3)) :
  Calls Tryd.prog 19 #[.string a0] w fun e w' => e = .returned (.tuple #[.agg #[.int .i64 r1, .int .i64 r2], .int .i64 r3]) ∧ Below w.heap.size w w' := by
 unfold rational_Parse.f at h
 split at h
 ·rename_i hs
  obtain ⟨hs1, hs2⟩ := cutAt_size a0 47
  unfold ratParse at h
  obtain ⟨t, b, f, hc⟩ : ∃ t b f, cutAt a0 47 = (t, b, f) := ⟨_, _, _, rfl⟩
  rw [hc] at h hs1 hs2
  simp only at h hs1 hs2
  have fin : ∀ n d, parseEnd a0 n d = some (r1, r2, r3) → ∃ u g, rational_Text.f n d = some (u, g) ∧ ((g = 0 ∧ u.toList = a0.toList ∧ r1 = n ∧ r2 = d ∧ r3 = 0) ∨ (g = 0 ∧ u.toList ≠ a0.toList ∧ r1 = 0 ∧ r2 = 0 ∧ r3 = 8) ∨ (g ≠ 0 ∧ r1 = 0 ∧ r2 = 0 ∧ r3 = 8)) := by
   intro n d hp
   unfold parseEnd at hp
   obtain ⟨⟨u, g⟩, hx, hp⟩ := Option.bind_eq_some_iff.mp hp
   refine ⟨u, g, hx, ?_⟩
   simp only at hp
   by_cases hg : g = 0
   ·by_cases hu : u.toList = a0.toList
    ·rw [if_pos ⟨hg, hu⟩] at hp
     cases hp
     exact .inl ⟨hg, hu, rfl, rfl, rfl⟩
    ·rw [if_neg (fun q => hu q.2)] at hp
     cases hp
     exact .inr (.inl ⟨hg, hu, rfl, rfl, rfl⟩)
   ·rw [if_neg (fun q => hg q.1)] at hp
    cases hp
    exact .inr (.inr ⟨hg, rfl, rfl, rfl⟩)
  cases f with
  | false =>
   cases hn : atoiV t with
   | none =>
    rw [hn] at h
    cases h
    exact parse_a a0 t b w hG hs hs1 hs2 hc hn
   | some n =>
    rw [hn] at h
    obtain ⟨u, g, hx, ⟨hg, hu, rfl, rfl, rfl⟩ | ⟨hg, hu, rfl, rfl, rfl⟩ | ⟨hg, rfl, rfl, rfl⟩⟩ := fin _ _ h
    ·exact parse_b1 a0 t b _ u g w hG hs hs1 hs2 hc hn hx hg hu
    ·exact parse_b2 a0 t b _ u g w hG hs hs1 hs2 hc hn hx hg hu
    ·exact parse_b3 a0 t b _ u g w hG hs hs1 hs2 hc hn hx hg
  | true =>
   cases hd : atoiV b with
   | none =>
    cases hn : atoiV t with
    | none =>
     rw [hn, hd] at h
     cases h
     exact parse_c2 a0 t b w hG hs hs1 hs2 hc hn hd
    | some n =>
     rw [hn, hd] at h
     cases h
     exact parse_c1 a0 t b _ w hG hs hs1 hs2 hc hn hd
   | some d =>
    cases hn : atoiV t with
    | none =>
     rw [hn, hd] at h
     cases h
     exact parse_d a0 t b _ w hG hs hs1 hs2 hc hn hd
    | some n =>
     rw [hn, hd] at h
     obtain ⟨u, g, hx, ⟨hg, hu, rfl, rfl, rfl⟩ | ⟨hg, hu, rfl, rfl, rfl⟩ | ⟨hg, rfl, rfl, rfl⟩⟩ := fin _ _ h
     ·exact parse_e1 a0 t b _ _ u g w hG hs hs1 hs2 hc hn hd hx hg hu
     ·exact parse_e2 a0 t b _ _ u g w hG hs hs1 hs2 hc hn hd hx hg hu
     ·exact parse_e3 a0 t b _ _ u g w hG hs hs1 hs2 hc hn hd hx hg
 ·cases h

end Go.Proofs.YteifflpjhlgpjaaDoor.X
