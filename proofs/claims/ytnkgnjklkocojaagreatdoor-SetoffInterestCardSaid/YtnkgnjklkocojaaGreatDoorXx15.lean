-- Written by a program of mine (wip/tools/xprint.py) over the kit's print.py: printed functions and hand-proved ones side by side.
import Derived.Test.YtnkgnjklkocojaaGreatDoorXx0
import Derived.Test.YtnkgnjklkocojaaGreatDoorXx8
import Derived.Test.YtnkgnjklkocojaaGreatDoorXx11
import Derived.Test.YtnkgnjklkocojaaGreatDoorXx14
namespace Go.Proofs.YtnkgnjklkocojaaGreatDoor.X
open Go.RowKit Go.Proofs.YtnkgnjklkocojaaGreatDoorW.PrintWords Go.Proofs.YtnkgnjklkocojaaGreatDoorW.PrintLast Go.Proofs.YtnkgnjklkocojaaGreatDoorW.PrintMore
attribute [local go_sem] max2_int min2_int max_two min_two max_three min_three max_four min_four   -- for this text's walks alone
set_option linter.unusedVariables false
set_option linter.unusedSimpArgs false

/-! ### money_Split: function 48 -/
-- by hand: cohousing/money.Split
/-- One more at each of these places. -/
def incs (P : List Int) : List Int → List Int
  | [] => P
  | i :: r => incs (P.set i.toNat (rd P i + 1)) r
theorem ordL_length (size T : Int) (l : List Int) (hn : 0 < l.length) : (ordL size T l hn).length = l.length := by
  unfold ordL
  rw [List.length_map, Array.length_toList, ordA_size]
theorem ordL_bd (size T : Int) (l : List Int) (hn : 0 < l.length) (i : Nat) (hi : i < l.length) : 0 ≤ rd (ordL size T l hn) i ∧ rd (ordL size T l hn) i < (l.length : Int) := by
  have hl := ordL_length size T l hn
  have e : rd (ordL size T l hn) i = ((ordA size T l hn)[i]'(by rw [ordA_size]; exact hi)).val := by
    unfold rd ordL
    have : i < (ordA size T l hn).size := by rw [ordA_size]; exact hi
    simp [this]
  rw [e]
  have := ((ordA size T l hn)[i]'(by rw [ordA_size]; exact hi)).isLt
  omega
theorem rd_set (P : List Int) (i : Nat) (x : Int) : ∀ y ∈ P.set i x, y ∈ P ∨ y = x := by
  intro y hy
  rcases List.mem_or_eq_of_mem_set hy with h | h
  · exact .inl h
  · exact .inr h
theorem take_drop_cons (O : List Int) (m k : Nat) (hk : k < m) (hm : m ≤ O.length) : (O.take m).drop k = rd O k :: (O.take m).drop (k + 1) := by
  have h : k < (O.take m).length := by rw [List.length_take]; omega
  rw [List.drop_eq_getElem_cons h]
  congr 1
  have : k < O.length := by omega
  simp [rd, this]
/-- The parts with their sign, the first i of them. -/
def signs (P : List Int) (sgn : Int) (i : Nat) : List Int := (P.take i).map (· * sgn) ++ P.drop i
theorem signs_set (P : List Int) (sgn : Int) (i : Nat) (hi : i < P.length) : (signs P sgn i).set i (rd P i * sgn) = signs P sgn (i + 1) := by
  have e : rd P i = P[i] := by unfold rd; simp [hi]
  have hl : ((P.take i).map (· * sgn)).length = i := by simp; omega
  unfold signs
  rw [List.set_append_right _ _ (by omega), hl, Nat.sub_self, List.drop_eq_getElem_cons hi, List.set_cons_zero, take_succ_eq P i hi, List.map_append, List.append_assoc, e]
  rfl
theorem rd_signs (P : List Int) (sgn : Int) (i : Nat) (hi : i < P.length) : rd (signs P sgn i) i = rd P i := by
  have hl : ((P.take i).map (· * sgn)).length = i := by simp; omega
  have e : rd P i = P[i] := by unfold rd; simp [hi]
  unfold signs
  rw [List.drop_eq_getElem_cons hi, e]
  have h2 : ((P.take i).map (· * sgn) ++ P[i] :: P.drop (i + 1))[i]? = some P[i] := by rw [List.getElem?_append_right (by omega), hl, Nat.sub_self]; rfl
  unfold rd
  rw [Int.toNat_natCast, List.getD_eq_getElem?_getD, h2]
  rfl
theorem fillP_all (size T : Int) (l : List Int) : fillP size T l l.length = qs size T l := by simp [fillP]
theorem qs_bd (size T : Int) (l : List Int) (hs : 0 ≤ size) (hT : 1 ≤ T) (hl : ∀ x ∈ l, 0 ≤ x ∧ x ≤ 1000000) (e : T = l.sum) : ∀ y ∈ qs size T l, 0 ≤ y ∧ y ≤ size := by
  intro y hy
  obtain ⟨x, hx, rfl⟩ := List.mem_map.mp hy
  have hb := hl x hx
  have hxs : x ≤ l.sum := by
    clear e hy hs hb
    induction l with
    | nil => cases hx
    | cons z l ih =>
      have hz := hl z (List.mem_cons_self)
      have hh : ∀ y ∈ l, 0 ≤ y ∧ y ≤ 1000000 := fun y hy => hl y (List.mem_cons_of_mem _ hy)
      have hsum := (sum_nonneg_le l 0 hh).1
      rw [List.sum_cons]
      rcases List.mem_cons.mp hx with rfl | hx
      · omega
      · have := ih hh hx
        omega
  refine ⟨Int.ediv_nonneg (Int.mul_nonneg hs hb.1) (by omega), ?_⟩
  have h1 : size * x ≤ size * T := Int.mul_le_mul_of_nonneg_left (by omega) hs
  calc size * x / T ≤ size * T / T := Int.ediv_le_ediv (by omega) h1
    _ = size := Int.mul_ediv_cancel _ (by omega)
theorem signs_all (P : List Int) (sgn : Int) (n : Nat) (h : P.length = n) : signs P sgn n = P.map (· * sgn) := by
  subst h
  simp [signs]
/-- What Split returns. -/
def splitRes (c T : Int) (l : List Int) (hn : 0 < l.length) : List Int :=
  (incs (qs (if c < 0 then -c else c) T l) ((ordL (if c < 0 then -c else c) T l hn).take (leftAt (if c < 0 then -c else c) T l l.length).toNat)).map (· * (if c < 0 then -1 else 1))
theorem splitRes_of (c T : Int) (l : List Int) (hn : 0 < l.length) (size sgn : Int) (hsg : (c < 0 ∧ size = -c ∧ sgn = -1) ∨ (0 ≤ c ∧ size = c ∧ sgn = 1)) (k : Nat) (hk : leftAt size T l l.length = k) (Pf : List Int) (hP : incs (qs size T l) ((ordL size T l hn).take k) = Pf) :
    splitRes c T l hn = Pf.map (· * sgn) := by
  have e1 : (if c < 0 then -c else c) = size := by split <;> omega
  have e2 : (if c < 0 then (-1 : Int) else 1) = sgn := by split <;> omega
  unfold splitRes
  rw [e1, e2, hk, Int.toNat_natCast, hP]
set_option maxRecDepth 100000 in
set_option maxHeartbeats 8000000 in
theorem split_c (c : Int) (A1 : Option Addr) (c1 : Nat) (l1 : List Int) (T : Int) (w : World) (hr1 : Kd.C (Kd.int .i64) w A1 l1.length l1) (hc1 : l1.length ≤ c1)
    (ht : splitTotal l1 0 = some T) (hv : -1000000000 ≤ c ∧ c ≤ 1000000000) (hl : l1.length ≤ 64) (hT : 1 ≤ T) (hn20 : l1.length ≤ 64) (hn00 : 0 < l1.length) :
    Calls Tryz.prog 48 #[.int .i64 c, .slice A1 l1.length c1] w fun e w' => ∃ v0_ : Value, e = .returned (.tuple #[v0_, .int .i64 0]) ∧ Kd.R (Kd.int .i64) 3 w' w.heap.size (fun _ => True) v0_ (splitRes c T l1 hn00) ∧ Below w.heap.size w w' := by
  have HR := Aside0.mk hr1
  have HT := Aside0.mk ht
  have hlen := hr1.2.1
  clear hr1 ht
  have HV : Aside0 (money_amount_valid.f c = some true) := ⟨by
    unfold money_amount_valid.f
    rw [if_pos hv.1, decide_eq_true hv.2]⟩
  have hmk := run_make_row' (P := Tryz.prog) 52 3 (.int .i64 0) 8 Tryz.underlying52 (by kernel_rfl) rfl .i64 .i64 l1.length (by omega) (by omega)
  go_enter Tryz.func48, Tryz.ntmps48
  go_wp2_with fail
  go_loopw [20] (fun v wr => ∃ (i : Nat) (s : Int), v = .int .i64 i ∧ i ≤ l1.length ∧ wr = (w.alloc (.cells #[.slice A1 l1.length c1] 52)).alloc (.cells #[.int .i64 s] 3) ∧ Aside0 (splitTotal (l1.drop i) s = some T)) (fun v _ => l1.length - (intOf v).toNat)
  case atStart => exact ⟨0, 0, rfl, by omega, rfl, ⟨by simpa using HT.out⟩⟩
  case round =>
    obtain ⟨i, s, rfl, hi, rfl, HS⟩ := hrel
    by_cases hlt : i < l1.length
    · have hd := HS.out
      rw [splitTotal_drop l1 i s hlt] at hd
      have hr2 : Kd.C (Kd.int .i64) ((w.alloc (.cells #[.slice A1 l1.length c1] 52)).alloc (.cells #[.int .i64 s] 3)) A1 l1.length l1 := Kd.C_below HR.out (below_alloc (below_alloc (Below.refl _ _) _) _)
      obtain ⟨ad, rfl, hcell⟩ := Kd.at_int hr2 (i : Int) (by omega) (by omega)
      rw [Int.toNat_natCast] at hcell
      have hltz : (i : Int) < (l1.length : Int) := by omega
      by_cases h0 : rd l1 i < 0 ∨ 1000000 < rd l1 i
      · rw [if_pos h0] at hd
        cases hd
      · rw [if_neg h0] at hd
        have h0b : decide (rd l1 i < 0) = false := decide_eq_false (by omega)
        have h1b : decide (1000000 < rd l1 i) = false := decide_eq_false (by omega)
        have HD := Aside0.mk hd
        clear hd HS h0
        go_wp2
        go_roundw
        case rel => exact ⟨i + 1, wrap64 (s + rd l1 i), by go_num, by omega, rfl, HD⟩
        case measure => simp [intOf]; omega
    · have e : i = l1.length := by omega
      subst e
      have hd := HS.out
      rw [List.drop_length] at hd
      obtain rfl := Option.some.inj hd
      clear hd HS hlt
      have hlb : decide (64 < l1.length) = false := decide_eq_false (by omega)
      have hlz : decide ((64 : Int) < (l1.length : Int)) = false := decide_eq_false (by omega)
      have hsz : (s == 0) = false := by simp; omega
      go_wp2_with fail
      refine (money_amount_valid.calls c _ _ HV.out).mono ?_
      rintro e w' ⟨rfl, ⟨nd, rfl⟩⟩
      go_upto_if 48 with (fail)
      go_cut [9] (fun v9 wc => ∃ (size sgn : Int), v9 = .int .i64 sgn ∧ ((c < 0 ∧ size = -c ∧ sgn = -1) ∨ (0 ≤ c ∧ size = c ∧ sgn = 1)) ∧ wc = (((w.alloc (.cells #[.slice A1 l1.length c1] 52)).alloc (.cells #[.int .i64 s] 3)).drewN nd).alloc (.cells #[.int .i64 size] 3))
      case first =>
        by_cases hc : c < 0
        · have hcb : decide (c < 0) = true := decide_eq_true hc
          have hcw := wrap_i64 (-c) (by omega) (by omega)
          go_wp2
          go_meet
          case rel => exact ⟨-c, -1, rfl, .inl ⟨hc, rfl, rfl⟩, rfl⟩
        · have hcb : decide (c < 0) = false := decide_eq_false hc
          go_wp2
          go_meet
          case rel => exact ⟨c, 1, rfl, .inr ⟨by omega, rfl, rfl⟩, rfl⟩
      case rest =>
        obtain ⟨size, sgn, rfl, hsg, rfl⟩ := hcut
        have s0 : 0 ≤ size := by omega
        have s1 : size ≤ 1000000000 := by omega
        obtain ⟨hTs, hlb2⟩ := splitTotal_sum l1 0 s HT.out (by omega) (by omega)
        rw [Int.zero_add] at hTs
        have HL := Aside0.mk hlb2
        have HTS := Aside0.mk hTs
        clear hTs hlb2
        have hn0 : 0 < l1.length := by
          cases l1 with
          | nil => have := HTS.out; simp at this; omega
          | cons x l => simp
        go_wp2_with fail
        go_region
        · obtain ⟨bp, hbp⟩ : ∃ b, b = w.heap.size + 1 + 1 + 1 := ⟨_, rfl⟩
          obtain ⟨bo, hbo⟩ : ∃ b, b = w.heap.size + 1 + 1 + 1 + 1 := ⟨_, rfl⟩
          rw [← hbo, ← hbp]
          have HS0 := split_start w A1 c1 l1.length s size nd bp bo (by omega) (by omega)
          unfold splitW at HS0
          generalize ((((((w.alloc (.cells #[.slice A1 l1.length c1] 52)).alloc (.cells #[.int .i64 s] 3)).drewN nd).alloc (.cells #[.int .i64 size] 3)).alloc (.cells (madeCells #[.int .i64 0] l1.length) 3)).alloc (.cells (madeCells #[.int .i64 0] l1.length) 3)).drew = W at HS0 ⊢
          have HS := Aside0.mk HS0
          have e0 := HS0.e0
          clear hmk hbp hbo HS0
          go_wp2_with fail
          go_loopw [13, 60] (fun v13 v60 wr => ∃ i : Nat, v13 = .int .i64 (leftAt size s l1 i) ∧ v60 = .int .i64 i ∧ i ≤ l1.length ∧ Aside0 (SplitSt w wr A1 c1 l1.length s size bp bo (fillP size s l1 i) (fillO l1.length i))) (fun _ v60 _ => l1.length - (intOf v60).toNat)
          case atStart => exact ⟨0, by simp [leftAt, qs], rfl, by omega, ⟨by simpa [fillP, fillO, qs] using HS.out⟩⟩
          case round =>
            clear e0 HS
            obtain ⟨i, rfl, rfl, hi, HS⟩ := hrel
            have hbd := leftAt_bd size s l1 i s0 hT HL.out HTS.out
            by_cases hlt : i < l1.length
            · have hltz : (i : Int) < (l1.length : Int) := by omega
              have hr2 : Kd.C (Kd.int .i64) wr A1 l1.length l1 := Kd.C_below HR.out HS.out.below
              obtain ⟨ad, rfl, hcell⟩ := Kd.at_int hr2 (i : Int) (by omega) (by omega)
              rw [Int.toNat_natCast] at hcell
              have hx := HL.out (rd l1 i) (rd_mem l1 i hlt)
              have hpr := prod_b s0 s1 hx.1 hx.2
              have hw := wrap_i64 (size * rd l1 i) (by omega) (by omega)
              have hq := quo_bd (size * rd l1 i) s hpr.1 hT
              have hsucc := leftAt_succ size s l1 i hlt
              have hbd2 := leftAt_bd size s l1 (i + 1) s0 hT HL.out HTS.out
              have hSet := Aside0.mk (((HS.out.setP i (size * rd l1 i / s)).setO i (i : Int)).drew)
              rw [fillP_set size s l1 i hlt, fillO_set l1.length i hlt] at hSet
              have hrdP := rd_fillP size s l1 i hlt
              obtain ⟨pr, hpr'⟩ : ∃ z, size * rd l1 i = z := ⟨_, rfl⟩
              obtain ⟨qu, hqu⟩ : ∃ z, pr / s = z := ⟨_, rfl⟩
              rw [hpr'] at hpr hw hq hsucc hrdP hSet
              rw [hqu] at hsucc hrdP hSet
              have f0 := HS.out.e0
              have f1 := HS.out.e1
              have f2 := HS.out.e2
              have fp := HS.out.cellP i hlt
              have fo := HS.out.cellO i hlt
              have sne : ¬ s = 0 := by omega
              have hi0 : (0 : Int) ≤ (i : Int) := by omega
              have hwq := wrap_i64 qu (by omega) (by omega)
              have fow : (wr.setCell ⟨bp, i, none⟩ (.int .i64 qu)).cell? ⟨bo, i, none⟩ = some (.int .i64 (rd (fillO l1.length i) i)) := (cell_farM _ _ _ _ (by show bo ≠ bp; exact HS.out.ne.symm)).trans fo.1
              have fox : (wr.setCell ⟨bp, i, none⟩ (.int .i64 qu)).frozen? ⟨bo, i, none⟩ = false := (World.frozen?_setCell ..).trans fo.2
              go_wp2_with fail
              go_region
              generalize ((wr.setCell ⟨bp, i, none⟩ (.int .i64 qu)).setCell ⟨bo, i, none⟩ (.int .i64 (i : Int))).drew = wr2 at hSet ⊢
              have fp2 := hSet.out.cellP i hlt
              rw [hrdP] at fp2
              have hwl := wrap_i64 (leftAt size s l1 i - qu) (by omega) (by omega)
              clear f0 f1 f2 fp fo fow fox hwq hw hq
              go_wp2
              go_roundw
              case rel => exact ⟨i + 1, by rw [hsucc], by go_num, by omega, hSet⟩
              case measure => simp [intOf]; omega
            · have e : i = l1.length := by omega
              subst e
              obtain ⟨ad, rfl, -⟩ := Kd.at_int HR.out (0 : Int) (by omega) (by omega)
              have hlend := left_end size s l1 hT HTS.out hn0
              have hso := sort_split64 l1 HS.out HR.out hn20 hn0 s0 s1 hT HL.out
              have hbL := leftAt_bd size s l1 l1.length s0 hT HL.out HTS.out
              have hqb := qs_bd size s l1 s0 hT HL.out HTS.out
              have hOl := ordL_length size s l1 hn0
              rw [fillP_all] at hso
              obtain ⟨m, hm⟩ : ∃ m : Nat, leftAt size s l1 l1.length = m := ⟨(leftAt size s l1 l1.length).toNat, by omega⟩
              rw [hm] at hlend hbL ⊢
              clear hlt HS hbd
              go_wp2_with (go_at_call 75; refine hso.mono ?_; rintro e w1 ⟨rfl, HS1⟩)
              go_loopw [92] (fun v92 wr => ∃ (k : Nat) (Pk : List Int), v92 = .int .i64 k ∧ k ≤ m ∧ Aside0 (SplitSt w wr (some ad) c1 l1.length s size bp bo Pk (ordL size s l1 hn0)) ∧ Aside0 (∀ y ∈ Pk, 0 ≤ y ∧ y ≤ size + k) ∧ Aside0 (incs Pk (((ordL size s l1 hn0).take m).drop k) = incs (qs size s l1) ((ordL size s l1 hn0).take m))) (fun v92 _ => m - (intOf v92).toNat)
              case atStart => exact ⟨0, qs size s l1, rfl, by omega, ⟨HS1⟩, ⟨by simpa using hqb⟩, ⟨rfl⟩⟩
              case round =>
                clear HS1 hqb
                obtain ⟨k, Pk, rfl, hk, HS, HB, HI⟩ := hrel
                by_cases hlt : k < m
                · have hltz : (k : Int) < (m : Int) := by omega
                  have hib := ordL_bd size s l1 hn0 k (by omega)
                  have fo := HS.out.cellO k (by omega)
                  have hI2 := HI.out
                  rw [take_drop_cons _ m k hlt (by omega), incs] at hI2
                  obtain ⟨ix, hix⟩ : ∃ ix : Nat, rd (ordL size s l1 hn0) k = ix := ⟨(rd (ordL size s l1 hn0) k).toNat, by omega⟩
                  rw [hix] at hib fo hI2
                  rw [Int.toNat_natCast] at hI2
                  have hixl : ix < l1.length := by omega
                  have hPl : Pk.length = l1.length := (Kd.R_reads' HS.out.rp).1.symm
                  have fp := HS.out.cellP ix hixl
                  have hpb := HB.out (rd Pk ix) (rd_mem Pk ix (by omega))
                  have hw := wrap_i64 (rd Pk ix + 1) (by omega) (by omega)
                  have hSet := Aside0.mk (HS.out.setP ix (rd Pk ix + 1))
                  have hI3 := Aside0.mk hI2
                  have hB3 : Aside0 (∀ y ∈ Pk.set ix (rd Pk ix + 1), 0 ≤ y ∧ y ≤ size + (k + 1 : Nat)) := ⟨by
                    intro y hy
                    rcases rd_set _ _ _ y hy with h | h
                    · have := HB.out y h; omega
                    · omega⟩
                  clear hI2 HI HS HB hix
                  go_wp2
                  go_roundw
                  case rel => exact ⟨k + 1, _, by go_num, by omega, ⟨by first | exact hSet.out | exact hSet.out.drew⟩, hB3, hI3⟩
                  case measure => simp [intOf]; omega
                · have e : k = m := by omega
                  subst e
                  clear hlt
                  have hI2 := HI.out
                  rw [List.drop_eq_nil_of_le (by rw [List.length_take]; omega), incs] at hI2
                  subst hI2
                  clear HI
                  obtain ⟨Pf, hPf⟩ : ∃ Pf, incs (qs size s l1) ((ordL size s l1 hn0).take k) = Pf := ⟨_, rfl⟩
                  rw [hPf] at HS HB
                  have hPl : Pf.length = l1.length := (Kd.R_reads' HS.out.rp).1.symm
                  have HPF := Aside0.mk hPf
                  clear hPf
                  go_wp2_with fail
                  go_loopw [105] (fun v105 wr => ∃ i : Nat, v105 = .int .i64 i ∧ i ≤ l1.length ∧ Aside0 (SplitSt w wr (some ad) c1 l1.length s size bp bo (signs Pf sgn i) (ordL size s l1 hn0))) (fun v105 _ => l1.length - (intOf v105).toNat)
                  case atStart => exact ⟨0, rfl, by omega, ⟨by simpa [signs] using HS.out⟩⟩
                  case round =>
                    clear HS
                    obtain ⟨i, rfl, hi, HS⟩ := hrel
                    by_cases hlt : i < l1.length
                    · have hltz : (i : Int) < (l1.length : Int) := by omega
                      have fp := HS.out.cellP i hlt
                      have hi0 : (0 : Int) ≤ (i : Int) := by omega
                      have hpb := HB.out (rd Pf i) (rd_mem Pf i (by omega))
                      have hSet := Aside0.mk (HS.out.setP i (rd Pf i * sgn))
                      rw [signs_set Pf sgn i (by omega)] at hSet
                      rw [rd_signs Pf sgn i (by omega)] at fp
                      have hw : IntKind.i64.wrap (rd Pf i * sgn) = rd Pf i * sgn := by
                        refine wrap_i64 _ ?_ ?_
                        · rcases hsg with ⟨_, _, e⟩ | ⟨_, _, e⟩ <;> rw [e] <;> omega
                        · rcases hsg with ⟨_, _, e⟩ | ⟨_, _, e⟩ <;> rw [e] <;> omega
                      obtain ⟨px, hpx⟩ : ∃ px, rd Pf i * sgn = px := ⟨_, rfl⟩
                      have HPX := Aside0.mk hpx
                      have mw : IntKind.i64.wrap (rd Pf i * sgn) = px := hw.trans hpx
                      rw [hpx] at hSet
                      clear HS hsg hpx hw
                      go_wp2
                      go_roundw
                      case rel => exact ⟨i + 1, by go_num, by omega, ⟨by first | exact hSet.out | exact hSet.out.drew⟩⟩
                      case measure => simp [intOf]; omega
                    · have e : i = l1.length := by omega
                      subst e
                      go_wp2
                      go_ret2
                      have hr := splitRes_of c s l1 hn0 size sgn hsg k hm Pf HPF.out
                      have hs2 := signs_all Pf sgn l1.length hPl
                      refine ⟨_, rfl, ?_, HS.out.below⟩
                      rw [hr, ← hs2]
                      exact Kd.R_mono HS.out.rp (fun _ _ => trivial)
        · obtain ⟨bo, hbo⟩ : ∃ b, b = w.heap.size + 1 + 1 + 1 := ⟨_, rfl⟩
          obtain ⟨bp, hbp⟩ : ∃ b, b = w.heap.size + 1 + 1 + 1 + 1 := ⟨_, rfl⟩
          rw [← hbp, ← hbo]
          have HS0 := split_start w A1 c1 l1.length s size nd bp bo (by omega) (by omega)
          unfold splitW at HS0
          generalize ((((((w.alloc (.cells #[.slice A1 l1.length c1] 52)).alloc (.cells #[.int .i64 s] 3)).drewN nd).alloc (.cells #[.int .i64 size] 3)).alloc (.cells (madeCells #[.int .i64 0] l1.length) 3)).alloc (.cells (madeCells #[.int .i64 0] l1.length) 3)).drew = W at HS0 ⊢
          have HS := Aside0.mk HS0
          have e0 := HS0.e0
          clear hmk hbp hbo HS0
          go_wp2_with fail
          go_loopw [13, 60] (fun v13 v60 wr => ∃ i : Nat, v13 = .int .i64 (leftAt size s l1 i) ∧ v60 = .int .i64 i ∧ i ≤ l1.length ∧ Aside0 (SplitSt w wr A1 c1 l1.length s size bp bo (fillP size s l1 i) (fillO l1.length i))) (fun _ v60 _ => l1.length - (intOf v60).toNat)
          case atStart => exact ⟨0, by simp [leftAt, qs], rfl, by omega, ⟨by simpa [fillP, fillO, qs] using HS.out⟩⟩
          case round =>
            clear e0 HS
            obtain ⟨i, rfl, rfl, hi, HS⟩ := hrel
            have hbd := leftAt_bd size s l1 i s0 hT HL.out HTS.out
            by_cases hlt : i < l1.length
            · have hltz : (i : Int) < (l1.length : Int) := by omega
              have hr2 : Kd.C (Kd.int .i64) wr A1 l1.length l1 := Kd.C_below HR.out HS.out.below
              obtain ⟨ad, rfl, hcell⟩ := Kd.at_int hr2 (i : Int) (by omega) (by omega)
              rw [Int.toNat_natCast] at hcell
              have hx := HL.out (rd l1 i) (rd_mem l1 i hlt)
              have hpr := prod_b s0 s1 hx.1 hx.2
              have hw := wrap_i64 (size * rd l1 i) (by omega) (by omega)
              have hq := quo_bd (size * rd l1 i) s hpr.1 hT
              have hsucc := leftAt_succ size s l1 i hlt
              have hbd2 := leftAt_bd size s l1 (i + 1) s0 hT HL.out HTS.out
              have hSet := Aside0.mk (((HS.out.setP i (size * rd l1 i / s)).setO i (i : Int)).drew)
              rw [fillP_set size s l1 i hlt, fillO_set l1.length i hlt] at hSet
              have hrdP := rd_fillP size s l1 i hlt
              obtain ⟨pr, hpr'⟩ : ∃ z, size * rd l1 i = z := ⟨_, rfl⟩
              obtain ⟨qu, hqu⟩ : ∃ z, pr / s = z := ⟨_, rfl⟩
              rw [hpr'] at hpr hw hq hsucc hrdP hSet
              rw [hqu] at hsucc hrdP hSet
              have f0 := HS.out.e0
              have f1 := HS.out.e1
              have f2 := HS.out.e2
              have fp := HS.out.cellP i hlt
              have fo := HS.out.cellO i hlt
              have sne : ¬ s = 0 := by omega
              have hi0 : (0 : Int) ≤ (i : Int) := by omega
              have hwq := wrap_i64 qu (by omega) (by omega)
              have fow : (wr.setCell ⟨bp, i, none⟩ (.int .i64 qu)).cell? ⟨bo, i, none⟩ = some (.int .i64 (rd (fillO l1.length i) i)) := (cell_farM _ _ _ _ (by show bo ≠ bp; exact HS.out.ne.symm)).trans fo.1
              have fox : (wr.setCell ⟨bp, i, none⟩ (.int .i64 qu)).frozen? ⟨bo, i, none⟩ = false := (World.frozen?_setCell ..).trans fo.2
              go_wp2_with fail
              go_region
              generalize ((wr.setCell ⟨bp, i, none⟩ (.int .i64 qu)).setCell ⟨bo, i, none⟩ (.int .i64 (i : Int))).drew = wr2 at hSet ⊢
              have fp2 := hSet.out.cellP i hlt
              rw [hrdP] at fp2
              have hwl := wrap_i64 (leftAt size s l1 i - qu) (by omega) (by omega)
              clear f0 f1 f2 fp fo fow fox hwq hw hq
              go_wp2
              go_roundw
              case rel => exact ⟨i + 1, by rw [hsucc], by go_num, by omega, hSet⟩
              case measure => simp [intOf]; omega
            · have e : i = l1.length := by omega
              subst e
              obtain ⟨ad, rfl, -⟩ := Kd.at_int HR.out (0 : Int) (by omega) (by omega)
              have hlend := left_end size s l1 hT HTS.out hn0
              have hso := sort_split64 l1 HS.out HR.out hn20 hn0 s0 s1 hT HL.out
              have hbL := leftAt_bd size s l1 l1.length s0 hT HL.out HTS.out
              have hqb := qs_bd size s l1 s0 hT HL.out HTS.out
              have hOl := ordL_length size s l1 hn0
              rw [fillP_all] at hso
              obtain ⟨m, hm⟩ : ∃ m : Nat, leftAt size s l1 l1.length = m := ⟨(leftAt size s l1 l1.length).toNat, by omega⟩
              rw [hm] at hlend hbL ⊢
              clear hlt HS hbd
              go_wp2_with (go_at_call 75; refine hso.mono ?_; rintro e w1 ⟨rfl, HS1⟩)
              go_loopw [92] (fun v92 wr => ∃ (k : Nat) (Pk : List Int), v92 = .int .i64 k ∧ k ≤ m ∧ Aside0 (SplitSt w wr (some ad) c1 l1.length s size bp bo Pk (ordL size s l1 hn0)) ∧ Aside0 (∀ y ∈ Pk, 0 ≤ y ∧ y ≤ size + k) ∧ Aside0 (incs Pk (((ordL size s l1 hn0).take m).drop k) = incs (qs size s l1) ((ordL size s l1 hn0).take m))) (fun v92 _ => m - (intOf v92).toNat)
              case atStart => exact ⟨0, qs size s l1, rfl, by omega, ⟨HS1⟩, ⟨by simpa using hqb⟩, ⟨rfl⟩⟩
              case round =>
                clear HS1 hqb
                obtain ⟨k, Pk, rfl, hk, HS, HB, HI⟩ := hrel
                by_cases hlt : k < m
                · have hltz : (k : Int) < (m : Int) := by omega
                  have hib := ordL_bd size s l1 hn0 k (by omega)
                  have fo := HS.out.cellO k (by omega)
                  have hI2 := HI.out
                  rw [take_drop_cons _ m k hlt (by omega), incs] at hI2
                  obtain ⟨ix, hix⟩ : ∃ ix : Nat, rd (ordL size s l1 hn0) k = ix := ⟨(rd (ordL size s l1 hn0) k).toNat, by omega⟩
                  rw [hix] at hib fo hI2
                  rw [Int.toNat_natCast] at hI2
                  have hixl : ix < l1.length := by omega
                  have hPl : Pk.length = l1.length := (Kd.R_reads' HS.out.rp).1.symm
                  have fp := HS.out.cellP ix hixl
                  have hpb := HB.out (rd Pk ix) (rd_mem Pk ix (by omega))
                  have hw := wrap_i64 (rd Pk ix + 1) (by omega) (by omega)
                  have hSet := Aside0.mk (HS.out.setP ix (rd Pk ix + 1))
                  have hI3 := Aside0.mk hI2
                  have hB3 : Aside0 (∀ y ∈ Pk.set ix (rd Pk ix + 1), 0 ≤ y ∧ y ≤ size + (k + 1 : Nat)) := ⟨by
                    intro y hy
                    rcases rd_set _ _ _ y hy with h | h
                    · have := HB.out y h; omega
                    · omega⟩
                  clear hI2 HI HS HB hix
                  go_wp2
                  go_roundw
                  case rel => exact ⟨k + 1, _, by go_num, by omega, ⟨by first | exact hSet.out | exact hSet.out.drew⟩, hB3, hI3⟩
                  case measure => simp [intOf]; omega
                · have e : k = m := by omega
                  subst e
                  clear hlt
                  have hI2 := HI.out
                  rw [List.drop_eq_nil_of_le (by rw [List.length_take]; omega), incs] at hI2
                  subst hI2
                  clear HI
                  obtain ⟨Pf, hPf⟩ : ∃ Pf, incs (qs size s l1) ((ordL size s l1 hn0).take k) = Pf := ⟨_, rfl⟩
                  rw [hPf] at HS HB
                  have hPl : Pf.length = l1.length := (Kd.R_reads' HS.out.rp).1.symm
                  have HPF := Aside0.mk hPf
                  clear hPf
                  go_wp2_with fail
                  go_loopw [105] (fun v105 wr => ∃ i : Nat, v105 = .int .i64 i ∧ i ≤ l1.length ∧ Aside0 (SplitSt w wr (some ad) c1 l1.length s size bp bo (signs Pf sgn i) (ordL size s l1 hn0))) (fun v105 _ => l1.length - (intOf v105).toNat)
                  case atStart => exact ⟨0, rfl, by omega, ⟨by simpa [signs] using HS.out⟩⟩
                  case round =>
                    clear HS
                    obtain ⟨i, rfl, hi, HS⟩ := hrel
                    by_cases hlt : i < l1.length
                    · have hltz : (i : Int) < (l1.length : Int) := by omega
                      have fp := HS.out.cellP i hlt
                      have hi0 : (0 : Int) ≤ (i : Int) := by omega
                      have hpb := HB.out (rd Pf i) (rd_mem Pf i (by omega))
                      have hSet := Aside0.mk (HS.out.setP i (rd Pf i * sgn))
                      rw [signs_set Pf sgn i (by omega)] at hSet
                      rw [rd_signs Pf sgn i (by omega)] at fp
                      have hw : IntKind.i64.wrap (rd Pf i * sgn) = rd Pf i * sgn := by
                        refine wrap_i64 _ ?_ ?_
                        · rcases hsg with ⟨_, _, e⟩ | ⟨_, _, e⟩ <;> rw [e] <;> omega
                        · rcases hsg with ⟨_, _, e⟩ | ⟨_, _, e⟩ <;> rw [e] <;> omega
                      obtain ⟨px, hpx⟩ : ∃ px, rd Pf i * sgn = px := ⟨_, rfl⟩
                      have HPX := Aside0.mk hpx
                      have mw : IntKind.i64.wrap (rd Pf i * sgn) = px := hw.trans hpx
                      rw [hpx] at hSet
                      clear HS hsg hpx hw
                      go_wp2
                      go_roundw
                      case rel => exact ⟨i + 1, by go_num, by omega, ⟨by first | exact hSet.out | exact hSet.out.drew⟩⟩
                      case measure => simp [intOf]; omega
                    · have e : i = l1.length := by omega
                      subst e
                      go_wp2
                      go_ret2
                      have hr := splitRes_of c s l1 hn0 size sgn hsg k hm Pf HPF.out
                      have hs2 := signs_all Pf sgn l1.length hPl
                      refine ⟨_, rfl, ?_, HS.out.below⟩
                      rw [hr, ← hs2]
                      exact Kd.R_mono HS.out.rp (fun _ _ => trivial)
def money_Split.f (a0 : Int) (l1 : List Int) : Option (List Int × Int) :=
  match splitTotal l1 0 with
  | none => some ([], 1)
  | some T => if ¬ (-1000000000 ≤ a0 ∧ a0 ≤ 1000000000) ∨ 64 < l1.length ∨ T = 0 then some ([], 1) else if h : l1.length ≤ 64 ∧ 0 < l1.length then some (splitRes a0 T l1 h.2, 0) else none
theorem money_Split.calls (a0 : Int) (A1 : Option Addr) (c1 : Nat) (l1 : List Int) (r1 : List Int) (r2 : Int) (w : World) (hr1 : Kd.C (Kd.int .i64) w A1 l1.length l1) (hc1 : l1.length ≤ c1) (h : money_Split.f a0 l1 = some (r1, r2)) :
    Calls Tryz.prog 48 #[.int .i64 a0, .slice A1 l1.length c1] w fun e w' => ∃ v0_ : Value, e = .returned (.tuple #[v0_, .int .i64 r2]) ∧ Kd.R (Kd.int .i64) 3 w' w.heap.size (fun _ => True) v0_ r1 ∧ Below w.heap.size w w' := by
  unfold money_Split.f at h
  split at h
  · rename_i ht
    simp only [Option.some.injEq, Prod.mk.injEq] at h
    obtain ⟨rfl, rfl⟩ := h
    refine (split_a a0 A1 c1 l1 w hr1 hc1 ht).mono ?_
    rintro e w' ⟨rfl, hb⟩
    exact ⟨_, rfl, Kd.R_nil _ _ _ _ _, hb⟩
  · rename_i T ht
    split at h
    · rename_i hb0
      simp only [Option.some.injEq, Prod.mk.injEq] at h
      obtain ⟨rfl, rfl⟩ := h
      refine (split_b a0 A1 c1 l1 T w hr1 hc1 ht hb0).mono ?_
      rintro e w' ⟨rfl, hb⟩
      exact ⟨_, rfl, Kd.R_nil _ _ _ _ _, hb⟩
    · rename_i hb0
      split at h
      · rename_i hn
        simp only [Option.some.injEq, Prod.mk.injEq] at h
        obtain ⟨rfl, rfl⟩ := h
        have hT : 1 ≤ T := by
          obtain ⟨e, hm⟩ := splitTotal_sum l1 0 T ht (by omega) (by omega)
          have := (sum_nonneg_le l1 0 hm).1
          omega
        exact split_c a0 A1 c1 l1 T w hr1 hc1 ht (by omega) (by omega) hT hn.1 hn.2
      · cases h

/-! ### bits_Mul32: function 104 -/
def bits_Mul32.f (a0 : Int) (a1 : Int) : Option (Int × Int) := some (((IntKind.u64.wrap ((IntKind.u64.wrap (a0)) * (IntKind.u64.wrap (a1)))) / 4294967296) % 4294967296, (IntKind.u64.wrap ((IntKind.u64.wrap (a0)) * (IntKind.u64.wrap (a1)))) % 4294967296)
set_option maxHeartbeats 8000000 in
set_option maxRecDepth 100000 in
theorem bits_Mul32.calls (a0 : Int) (a1 : Int) (r1 : Int) (r2 : Int) (w : World) (h : bits_Mul32.f a0 a1 = some (r1, r2)) :
    Calls Tryz.prog 104 #[.int .u32 a0, .int .u32 a1] w fun e w' => e = .returned (.tuple #[.int .u32 r1, .int .u32 r2]) ∧ Drawn0 w w' := by
  have H : (some (((IntKind.u64.wrap ((IntKind.u64.wrap (a0)) * (IntKind.u64.wrap (a1)))) / 4294967296) % 4294967296, (IntKind.u64.wrap ((IntKind.u64.wrap (a0)) * (IntKind.u64.wrap (a1)))) % 4294967296)) = some (r1, r2) := h
  clear h
  simp only [Option.some.injEq, Prod.mk.injEq] at H
  obtain ⟨rfl, rfl⟩ := H
  go_enter Tryz.func104, Tryz.ntmps104
  go_wp2
  go_ret2
  exact ⟨by first | rfl | (simp; done) | (simp [*]; done), by repeat (first | exact Drawn0.refl _ | apply Drawn0.step)⟩

/-! ### bits_Mul64: function 105 -/
def bits_Mul64.f (a0 : Int) (a1 : Int) : Option (Int × Int) := some (IntKind.u64.wrap ((IntKind.u64.wrap ((IntKind.u64.wrap ((a0 / 4294967296) * (a1 / 4294967296))) + ((IntKind.u64.wrap ((IntKind.u64.wrap ((a0 / 4294967296) * (Go.bits .and .u64 a1 4294967295))) + ((IntKind.u64.wrap ((Go.bits .and .u64 a0 4294967295) * (Go.bits .and .u64 a1 4294967295))) / 4294967296))) / 4294967296))) + ((IntKind.u64.wrap ((Go.bits .and .u64 (IntKind.u64.wrap ((IntKind.u64.wrap ((a0 / 4294967296) * (Go.bits .and .u64 a1 4294967295))) + ((IntKind.u64.wrap ((Go.bits .and .u64 a0 4294967295) * (Go.bits .and .u64 a1 4294967295))) / 4294967296))) 4294967295) + (IntKind.u64.wrap ((Go.bits .and .u64 a0 4294967295) * (a1 / 4294967296))))) / 4294967296)), IntKind.u64.wrap (a0 * a1))
set_option maxHeartbeats 8000000 in
set_option maxRecDepth 100000 in
theorem bits_Mul64.calls (a0 : Int) (a1 : Int) (r1 : Int) (r2 : Int) (w : World) (h : bits_Mul64.f a0 a1 = some (r1, r2)) :
    Calls Tryz.prog 105 #[.int .u64 a0, .int .u64 a1] w fun e w' => e = .returned (.tuple #[.int .u64 r1, .int .u64 r2]) ∧ Drawn0 w w' := by
  have H : (some (IntKind.u64.wrap ((IntKind.u64.wrap ((IntKind.u64.wrap ((a0 / 4294967296) * (a1 / 4294967296))) + ((IntKind.u64.wrap ((IntKind.u64.wrap ((a0 / 4294967296) * (Go.bits .and .u64 a1 4294967295))) + ((IntKind.u64.wrap ((Go.bits .and .u64 a0 4294967295) * (Go.bits .and .u64 a1 4294967295))) / 4294967296))) / 4294967296))) + ((IntKind.u64.wrap ((Go.bits .and .u64 (IntKind.u64.wrap ((IntKind.u64.wrap ((a0 / 4294967296) * (Go.bits .and .u64 a1 4294967295))) + ((IntKind.u64.wrap ((Go.bits .and .u64 a0 4294967295) * (Go.bits .and .u64 a1 4294967295))) / 4294967296))) 4294967295) + (IntKind.u64.wrap ((Go.bits .and .u64 a0 4294967295) * (a1 / 4294967296))))) / 4294967296)), IntKind.u64.wrap (a0 * a1))) = some (r1, r2) := h
  clear h
  simp only [Option.some.injEq, Prod.mk.injEq] at H
  obtain ⟨rfl, rfl⟩ := H
  go_enter Tryz.func105, Tryz.ntmps105
  go_wp2
  go_ret2
  exact ⟨by first | rfl | (simp; done) | (simp [*]; done), by repeat (first | exact Drawn0.refl _ | apply Drawn0.step)⟩

/-! ### bits_Mul: function 77 -/
def bits_Mul.f (a0 : Int) (a1 : Int) : Option (Int × Int) := (bits_Mul64.f a0 a1).bind fun bt207 => (some (bt207.1, bt207.2))
set_option maxHeartbeats 8000000 in
set_option maxRecDepth 100000 in
theorem bits_Mul.calls (a0 : Int) (a1 : Int) (r1 : Int) (r2 : Int) (w : World) (h : bits_Mul.f a0 a1 = some (r1, r2)) :
    Calls Tryz.prog 77 #[.int .u64 a0, .int .u64 a1] w fun e w' => e = .returned (.tuple #[.int .u64 r1, .int .u64 r2]) ∧ Drawn0 w w' := by
  have H : ((bits_Mul64.f a0 a1).bind fun bt207 => (some (bt207.1, bt207.2))) = some (r1, r2) := h
  clear h
  replace H := Option.bind_eq_some_iff.mp H
  obtain ⟨⟨t207, t208⟩, A30, H⟩ := H
  replace H : (some (t207, t208)) = some (r1, r2) := H
  have A3 := Aside0.mk A30
  clear A30
  simp only [Option.some.injEq, Prod.mk.injEq] at H
  obtain ⟨rfl, rfl⟩ := H
  go_enter Tryz.func77, Tryz.ntmps77
  go_wp2_with (first | ((with_reducible refine gate_callee (f := 105) rfl ?_); refine goesL_ (some 25) rfl rfl Tryz.func105 (by kernel_rfl) rfl #[.int .u64 a0, .int .u64 a1] rfl (by (try simp only [List.map_toArray, List.map_cons, List.map_nil]); first | done | rfl | (simp only [List.length_drop, List.length_take]; rfl)) ?_; (with_reducible refine (bits_Mul64.calls a0 a1 t207 t208 _ A3.out).mono ?_); rintro e w' ⟨rfl, ⟨nd, rfl⟩⟩; refine ⟨_, rfl, ?_⟩))
  go_ret2
  exact ⟨by first | rfl | (simp; done) | (simp [*]; done), by repeat (first | exact Drawn0.refl _ | apply Drawn0.step)⟩

/-! ### slices_Repeat_int_int: function 49 -/
-- by hand: slices.Repeat[[]int,int]
section
theorem mul_one : ∀ m : Fin 1001, bits_Mul.f 1 (m.val : Int) = some (0, (m.val : Int)) := by decide +kernel
/-- A row whose first n are v, the others 0. -/
def repL (v : Int) (m n : Nat) : List Value := List.replicate n (.int .i64 v) ++ List.replicate (m - n) (.int .i64 0)
theorem repL_len (v : Int) (m n : Nat) (h : n ≤ m) : (repL v m n).length = m := by unfold repL; simp; omega
theorem repL_at (v : Int) (m n j : Nat) (h : j < n) : (repL v m n)[j]? = some (.int .i64 v) := by
  unfold repL
  rw [List.getElem?_append_left (by simpa using h)]
  simp [h]
theorem repL_splice (v : Int) (m n c : Nat) (h : n + c ≤ m) : splice (repL v m n) n (List.replicate c (.int .i64 v)) = repL v m (n + c) := by
  unfold splice repL
  rw [List.take_left' (by simp), List.length_replicate, List.drop_append, List.drop_eq_nil_of_le (by simp), List.nil_append, List.length_replicate, List.drop_replicate, ← List.append_assoc, List.replicate_append_replicate, show m - n - (n + c - n) = m - (n + c) by omega]
theorem made_rep (v : Int) (m : Nat) : madeCells (Value.int .i64 0).cells m = (repL v m 0).toArray := by
  unfold madeCells repL
  apply Array.ext
  · simp
  · intro j h1 h2
    simp [Value.cells, Nat.mod_one]
theorem one_src (W : World) (ad : Addr) (v : Int) (h : W.cell? ad = some (.int .i64 v)) : ∀ j u, [Value.int .i64 v][j]? = some u → W.cell? (ad.add j) = some u := by
  intro j u hj
  have hj0 : j = 0 := by have := (List.getElem?_eq_some_iff.mp hj).1; simpa using this
  subst hj0
  have e := Option.some.inj hj
  rw [← e]
  exact h
theorem rep_src (W : World) (G : Nat) (v : Int) (m n c : Nat) (h : c ≤ n) (hg : W.heap[G]? = some (.cells (repL v m n).toArray 3 (0, 0))) : ∀ j u, (List.replicate c (Value.int .i64 v))[j]? = some u → W.cell? ((⟨G, 0, none⟩ : Addr).add j) = some u := by
  intro j u hj
  have hjc : j < c := by have := (List.getElem?_eq_some_iff.mp hj).1; simpa using this
  have hu : u = .int .i64 v := by simp [List.getElem?_replicate, hjc] at hj; exact hj.symm
  subst hu
  have h1 := blk_cell hg j
  have e_ : ((⟨G, 0, none⟩ : Addr).add j) = ⟨G, j, none⟩ := by simp [add_plain]
  rw [e_, h1]
  simp [repL_at v m n j (by omega)]
theorem row_RSo {W : World} {b G m : Nat} {xs : List Int} (h : W.heap[G]? = some (.cells ((xs.map fun x => Value.int .i64 x).toArray) 3 (0, 0))) (hm : xs.length = m) (hp : 0 < m) (hb : b ≤ G) (hmx : m ≤ 4294967296) : Kd.R (Kd.int .i64) 3 W b (fun _ => True) (.slice (some ⟨G, 0, none⟩) m m) xs := by
  subst hm
  refine Kd.R_of_own ?_ (fun _ _ => trivial)
  refine ⟨by simp [encs], .inr ⟨G, xs.length, (xs.map fun x => Value.int .i64 x).toArray, rfl, hb, h, by simp, ?_, by simp, ?_⟩⟩
  · unfold maxLen; omega
  · rw [List.take_of_length_le (by simp)]
    simp [encs]
theorem meas_lt3 (m n c : Nat) (h : n < m) (hc : 0 < c) : m - ((n + c : Nat) : Int).toNat < m - ((n : Nat) : Int).toNat := by simp only [Int.toNat_natCast]; omega
theorem intOf_i64r (z : Int) : intOf (Value.int .i64 z) = z := rfl
set_option maxHeartbeats 8000000 in
set_option maxRecDepth 100000 in
theorem rep_pos (ad : Addr) (c0 : Nat) (v : Int) (m : Nat) (w : World) (hx : w.cell? ad = some (.int .i64 v)) (hm : m ≤ 1000) (hp : 0 < m) :
    Calls Tryz.prog 49 #[.slice (some ad) 1 c0, .int .i64 m] w fun e w' => ∃ v0_ : Value, e = .returned (v0_) ∧ Kd.R (Kd.int .i64) 3 w' w.heap.size (fun _ => True) v0_ (List.replicate m v) ∧ Below w.heap.size w w' := by
  have HM := Aside0.mk (mul_one ⟨m, by omega⟩)
  have b0 : decide ((m : Int) < 0) = false := decide_eq_false (by omega)
  have wr1 : IntKind.u64.wrap (1 : Int) = 1 := by simp [IntKind.wrap, IntKind.bits, IntKind.signed]
  have wr2 : IntKind.u64.wrap (m : Int) = m := by simp [IntKind.wrap, IntKind.bits, IntKind.signed]; omega
  have wr3 : IntKind.i64.wrap (m : Int) = m := by simp [IntKind.wrap, IntKind.bits, IntKind.signed]; omega
  have wr4 : wrap64 (m : Int) = m := by unfold wrap64; omega
  have b1 : decide ((m : Int) > 9223372036854775807) = false := decide_eq_false (by omega)
  go_enter Tryz.func49, Tryz.ntmps49
  go_upto_region 6 with (first | (go_at_call 77; refine (bits_Mul.calls 1 m 0 m _ HM.out).mono ?_; rintro e w1 ⟨rfl, m1, rfl⟩))
  obtain ⟨i0, hi, hzz⟩ := Option.map_eq_some_iff.1 (show (Tryz.prog.info? 3).map (fun i => (i.zero, i.size, i.bytes)) = some (some (.int .i64 0), 1, 8) by kernel_rfl)
  simp only [Prod.mk.injEq] at hzz
  obtain ⟨hz0, hz1, hz2⟩ := hzz
  have hr := run_make (P := Tryz.prog) (w.drewN m1) 52 3 i0 (.int .i64 0) Tryz.underlying52 hi hz0 .i64 .i64 (m : Int) (m : Int) (by omega) (by omega) (by rw [hz2]; omega) (by omega)
  simp only [Int.toNat_natCast] at hr
  rw [hz1, Nat.mul_one, made_rep v] at hr
  obtain ⟨C, hC⟩ : ∃ C_ : List Value, C_ = repL v m 0 := ⟨_, rfl⟩
  rw [← hC] at hr
  have HC := Aside0.mk hC
  clear hC
  go_upto_region 7 with fail
  obtain ⟨W, hW⟩ : ∃ W_ : World, W_ = (w.drewN m1).alloc (.cells C.toArray 3) := ⟨_, rfl⟩
  obtain ⟨G, hG⟩ : ∃ G_ : Nat, G_ = w.heap.size := ⟨_, rfl⟩
  have bg := Aside0.mk (by rw [hW, hG]; exact heap_alloc_new (w.drewN m1) _ : W.heap[G]? = some (.cells C.toArray 3 (0, 0)))
  have hb := Aside0.mk (by rw [hW]; exact below_alloc (pw_below_drewN (Below.refl _ _) _) _ : Below w.heap.size w W)
  have ge := Aside0.mk (by rw [hG]; exact Nat.le_refl _ : w.heap.size ≤ G)
  have hxW := Aside0.mk (hb.out.cell (World.block_lt_of_cell? w _ hx) |>.trans hx)
  rw [← hW]
  rw [← hG]
  clear hW hr hG
  have hsp := Aside0.mk (by rw [HC.out]; exact repL_splice v m 0 1 (by omega) : splice C 0 [.int .i64 v] = repL v m (0 + 1))
  have hCl := Aside0.mk (by rw [HC.out]; exact repL_len v m 0 (by omega) : C.length = m)
  have srcV := Aside0.mk (one_src W ad v hxW.out)
  go_wp2_with (first | ((with_reducible refine gate_builtin (b := .copy) (xs := #[.tmp 31, .tmp 32]) rfl ?_); refine wpList_copy_splice rfl (.tmp 31) (.tmp 32) 52 52 rfl 3 Tryz.underlying52 (by kernel_rfl) _ _ _ _ _ _ rfl rfl G 0 C 3 bg.out [.int .i64 v] (by show 1 = min 1 m; exact (Nat.min_eq_left hp).symm) (fun _ => ⟨rfl, ad, rfl, srcV.out⟩) (by have h_ := hCl.out; show 0 + 1 ≤ C.length; omega) (fun u hu => by rw [List.mem_singleton.mp hu]; rfl) w.heap.size w hb.out ge.out ?_; intro w3 hg3 hb3; rw [hsp.out] at hg3; have BG := Aside0.mk hg3.out; have HB := Aside0.mk hb3; clear hg3 hb3))
  trace_state
  go_loopw [8] (fun v8 wr => ∃ n : Nat, 1 ≤ n ∧ n ≤ m ∧ v8 = .int .i64 n ∧ Aside0 (wr.heap[G]? = some (.cells (repL v m n).toArray 3 (0, 0))) ∧ Aside0 (Below w.heap.size w wr)) (fun v8 _ => m - (intOf v8).toNat)
  case atStart => exact ⟨1, by omega, by omega, rfl, BG, HB⟩
  case round =>
    clear BG HB
    obtain ⟨n, h1, h2, rfl, BG, HB⟩ := hrel
    by_cases hn : n < m
    · have q1 := decide_eq_true (show (n : Int) < (m : Int) by omega)
      have q2 : 0 ≤ (n : Int) := by omega
      have q3 : (n : Int) ≤ (m : Int) := by omega
      have hlenR := Aside0.mk (repL_len v m n (by omega))
      obtain ⟨c, hc⟩ : ∃ c_ : Nat, c_ = min n (m - n) := ⟨_, rfl⟩
      have hc1 : 0 < c := by omega
      have hc2 : n + c ≤ m := by omega
      have hsp := Aside0.mk (repL_splice v m n c hc2)
      have hsrc := Aside0.mk (rep_src wr G v m n c (by omega) BG.out)
      obtain ⟨R, hR⟩ : ∃ R_ : List Value, R_ = repL v m n := ⟨_, rfl⟩
      obtain ⟨S, hS⟩ : ∃ S_ : List Value, S_ = List.replicate c (Value.int .i64 v) := ⟨_, rfl⟩
      have hSl := Aside0.mk (by rw [hS]; simp : S.length = c)
      have hS1 := Aside0.mk (by rw [hS]; intro u hu; rw [List.eq_of_mem_replicate hu]; rfl : ∀ u ∈ S, u.oneCell' = true)
      rw [← hS] at hsp hsrc
      rw [← hR] at hsp hlenR BG
      have BG1 := BG
      have HC2 := Aside0.mk hc
      have HC1 := Aside0.mk hc1
      have HCL := Aside0.mk hc2
      have NE := Aside0.mk (by omega : ¬ m = n)
      clear hS hR hc hc1 hc2 BG
      go_wp2_with fail
      go_region_law (refine step_copy_splice rfl (.tmp 41) (.tmp 44) 52 52 rfl 3 Tryz.underlying52 (by kernel_rfl) (some ⟨G, n, none⟩) (some ⟨G, 0, none⟩) (m - n) (m - n) n m (by simp [Act.eval, Act.put, NE.out]) (by simp [Act.eval, Act.put]) G n R 3 BG1.out S (by rw [hSl.out]; exact HC2.out) (fun _ => ⟨rfl, _, rfl, hsrc.out⟩) (by rw [hSl.out, hlenR.out]; exact HCL.out) hS1.out w.heap.size w (HB.out.drew) ge.out ?_; intro w4 hg4 hb4)
      all_goals (
        have hsl := hSl.out
        have hc2 := HCL.out
        have hc1 := HC1.out
        have w1_ : wrap64 ((n : Int) + (S.length : Int)) = ((n + c : Nat) : Int) := by rw [hsl]; unfold wrap64; omega
        have W1 := Aside0.mk (by rw [i64_w]; exact w1_ : IntKind.i64.wrap ((n : Int) + (S.length : Int)) = ((n + c : Nat) : Int))
        have hg5 := hg4.out
        rw [hsp.out] at hg5
        have HG5 := Aside0.mk hg5
        have HB5 := Aside0.mk hb4
        clear hg4 hb4 hg5 w1_ hsl
        go_wp2_with fail
        go_roundw
        case rel =>
          exact ⟨n + c, by omega, hc2, W1.out, HG5⟩
        case measure => (try simp only [intOf_i64r]); rw [W1.out]; exact meas_lt3 _ _ _ hn hc1)
    · have hnm : n = m := by omega
      subst hnm
      go_wp2_with fail
      go_ret
      refine ⟨_, rfl, row_RSo (xs := List.replicate n v) (by simpa [repL] using BG.out) (by simp) hp ge.out (by omega), HB.out⟩
def slices_Repeat_int_int.f (l0 : List Int) (a1 : Int) : Option (List Int) := if l0.length = 1 ∧ 1 ≤ a1 ∧ a1 ≤ 1000 then some (List.replicate a1.toNat (l0.getD 0 0)) else none
theorem slices_Repeat_int_int.calls (A0 : Option Addr) (c0 : Nat) (l0 : List Int) (a1 : Int) (r : List Int) (w : World) (hr0 : Kd.C (Kd.int .i64) w A0 l0.length l0) (hc0 : l0.length ≤ c0) (h : slices_Repeat_int_int.f l0 a1 = some r) :
    Calls Tryz.prog 49 #[.slice A0 l0.length c0, .int .i64 a1] w fun e w' => ∃ v0_ : Value, e = .returned (v0_) ∧ Kd.R (Kd.int .i64) 3 w' w.heap.size (fun _ => True) v0_ r ∧ Below w.heap.size w w' := by
  unfold slices_Repeat_int_int.f at h
  split at h
  case isFalse => exact absurd h (by simp)
  rename_i hc
  obtain ⟨h1, h2, h3⟩ := hc
  obtain rfl := Option.some.inj h
  obtain ⟨ad, e, hx⟩ := Kd.at_int hr0 0 (by omega) (by omega)
  subst e
  obtain ⟨m, rfl⟩ := Int.eq_ofNat_of_zero_le (show 0 ≤ a1 by omega)
  rw [h1, Int.toNat_natCast]
  have e1 : rd l0 0 = l0.getD 0 0 := rfl
  rw [e1] at hx
  refine rep_pos ad c0 (l0.getD 0 0) m w ?_ (by omega) (by omega)
  have e2 : ad.add ((0 : Int).toNat) = ad := by cases ad; rfl
  rwa [e2] at hx
end

end Go.Proofs.YtnkgnjklkocojaaGreatDoor.X
