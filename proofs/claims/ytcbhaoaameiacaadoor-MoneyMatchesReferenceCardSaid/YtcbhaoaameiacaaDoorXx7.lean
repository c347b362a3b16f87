-- Written by a program of mine (wip/tools/xprint.py) over the kit's print.py: printed functions and hand-proved ones side by side.
import Derived.Test.YtcbhaoaameiacaaDoorXx0
import Derived.Test.YtcbhaoaameiacaaDoorXx2
import Derived.Test.YtcbhaoaameiacaaDoorXx3
import Derived.Test.YtcbhaoaameiacaaDoorXx6
namespace Go.Proofs.YtcbhaoaameiacaaDoor.X
open Go.RowKit Go.Proofs.YtcbhaoaameiacaaDoorW.PrintWords Go.Proofs.YtcbhaoaameiacaaDoorW.PrintLast Go.Proofs.YtcbhaoaameiacaaDoorW.PrintMore
attribute [local go_sem] max2_int min2_int max_two min_two max_three min_three max_four min_four   -- for this text's walks alone
set_option linter.unusedVariables false
set_option linter.unusedSimpArgs false

/-! ### money_Split: function 15 -/
-- by hand: cohousing/money.Split
/-- One more at each of these places. -/
def incs (P : List Int) : List Int → List Int
  | [] => P
  | i :: r => incs (P.set i.toNat (rd P i + 1)) r
theorem ordL_length (size T : Int) (l : List Int) (hn : 0 < l.length) : (ordL size T l hn).length = l.length := by
  unfold ordL
  rw [List.length_map, Array.length_toList, ordA_size]
theorem ordL_bd (size T : Int) (l : List Int) (hn : 0 < l.length) (i : Nat) (hi : i < l.length) : 0 ≤ rd (ordL size T l hn) i ∧ rd (ordL size T l hn) i < (l.length : Int) := by
  have hl := ordL_length size T l hn
  have e : rd (ordL size T l hn) i = ((ordA size T l hn)[i]'(by rw [ordA_size]; exact hi)).val := by
    unfold rd ordL
    have : i < (ordA size T l hn).size := by rw [ordA_size]; exact hi
    simp [this]
  rw [e]
  have := ((ordA size T l hn)[i]'(by rw [ordA_size]; exact hi)).isLt
  omega
theorem rd_set (P : List Int) (i : Nat) (x : Int) : ∀ y ∈ P.set i x, y ∈ P ∨ y = x := by
  intro y hy
  rcases List.mem_or_eq_of_mem_set hy with h | h
  · exact .inl h
  · exact .inr h
theorem take_drop_cons (O : List Int) (m k : Nat) (hk : k < m) (hm : m ≤ O.length) : (O.take m).drop k = rd O k :: (O.take m).drop (k + 1) := by
  have h : k < (O.take m).length := by rw [List.length_take]; omega
  rw [List.drop_eq_getElem_cons h]
  congr 1
  have : k < O.length := by omega
  simp [rd, this]
/-- The parts with their sign, the first i of them. -/
def signs (P : List Int) (sgn : Int) (i : Nat) : List Int := (P.take i).map (· * sgn) ++ P.drop i
theorem signs_set (P : List Int) (sgn : Int) (i : Nat) (hi : i < P.length) : (signs P sgn i).set i (rd P i * sgn) = signs P sgn (i + 1) := by
  have e : rd P i = P[i] := by unfold rd; simp [hi]
  have hl : ((P.take i).map (· * sgn)).length = i := by simp; omega
  unfold signs
  rw [List.set_append_right _ _ (by omega), hl, Nat.sub_self, List.drop_eq_getElem_cons hi, List.set_cons_zero, take_succ_eq P i hi, List.map_append, List.append_assoc, e]
  rfl
theorem rd_signs (P : List Int) (sgn : Int) (i : Nat) (hi : i < P.length) : rd (signs P sgn i) i = rd P i := by
  have hl : ((P.take i).map (· * sgn)).length = i := by simp; omega
  have e : rd P i = P[i] := by unfold rd; simp [hi]
  unfold signs
  rw [List.drop_eq_getElem_cons hi, e]
  have h2 : ((P.take i).map (· * sgn) ++ P[i] :: P.drop (i + 1))[i]? = some P[i] := by rw [List.getElem?_append_right (by omega), hl, Nat.sub_self]; rfl
  unfold rd
  rw [Int.toNat_natCast, List.getD_eq_getElem?_getD, h2]
  rfl
theorem fillP_all (size T : Int) (l : List Int) : fillP size T l l.length = qs size T l := by simp [fillP]
theorem qs_bd (size T : Int) (l : List Int) (hs : 0 ≤ size) (hT : 1 ≤ T) (hl : ∀ x ∈ l, 0 ≤ x ∧ x ≤ 1000000) (e : T = l.sum) : ∀ y ∈ qs size T l, 0 ≤ y ∧ y ≤ size := by
  intro y hy
  obtain ⟨x, hx, rfl⟩ := List.mem_map.mp hy
  have hb := hl x hx
  have hxs : x ≤ l.sum := by
    clear e hy hs hb
    induction l with
    | nil => cases hx
    | cons z l ih =>
      have hz := hl z (List.mem_cons_self)
      have hh : ∀ y ∈ l, 0 ≤ y ∧ y ≤ 1000000 := fun y hy => hl y (List.mem_cons_of_mem _ hy)
      have hsum := (sum_nonneg_le l 0 hh).1
      rw [List.sum_cons]
      rcases List.mem_cons.mp hx with rfl | hx
      · omega
      · have := ih hh hx
        omega
  refine ⟨Int.ediv_nonneg (Int.mul_nonneg hs hb.1) (by omega), ?_⟩
  have h1 : size * x ≤ size * T := Int.mul_le_mul_of_nonneg_left (by omega) hs
  calc size * x / T ≤ size * T / T := Int.ediv_le_ediv (by omega) h1
    _ = size := Int.mul_ediv_cancel _ (by omega)
theorem signs_all (P : List Int) (sgn : Int) (n : Nat) (h : P.length = n) : signs P sgn n = P.map (· * sgn) := by
  subst h
  simp [signs]
/-- What Split returns. -/
def splitRes (c T : Int) (l : List Int) (hn : 0 < l.length) : List Int :=
  (incs (qs (if c < 0 then -c else c) T l) ((ordL (if c < 0 then -c else c) T l hn).take (leftAt (if c < 0 then -c else c) T l l.length).toNat)).map (· * (if c < 0 then -1 else 1))
theorem splitRes_of (c T : Int) (l : List Int) (hn : 0 < l.length) (size sgn : Int) (hsg : (c < 0 ∧ size = -c ∧ sgn = -1) ∨ (0 ≤ c ∧ size = c ∧ sgn = 1)) (k : Nat) (hk : leftAt size T l l.length = k) (Pf : List Int) (hP : incs (qs size T l) ((ordL size T l hn).take k) = Pf) :
    splitRes c T l hn = Pf.map (· * sgn) := by
  have e1 : (if c < 0 then -c else c) = size := by split <;> omega
  have e2 : (if c < 0 then (-1 : Int) else 1) = sgn := by split <;> omega
  unfold splitRes
  rw [e1, e2, hk, Int.toNat_natCast, hP]
set_option maxRecDepth 100000 in
set_option maxHeartbeats 8000000 in
theorem split_c (c : Int) (A1 : Option Addr) (c1 : Nat) (l1 : List Int) (T : Int) (w : World) (hr1 : Kd.C (Kd.int .i64) w A1 l1.length l1) (hc1 : l1.length ≤ c1)
    (ht : splitTotal l1 0 = some T) (hv : -1000000000 ≤ c ∧ c ≤ 1000000000) (hl : l1.length ≤ 64) (hT : 1 ≤ T) (hn20 : l1.length ≤ 64) (hn00 : 0 < l1.length) :
    Calls Tryd.prog 15 #[.int .i64 c, .slice A1 l1.length c1] w fun e w' => ∃ v0_ : Value, e = .returned (.tuple #[v0_, .int .i64 0]) ∧ Kd.R (Kd.int .i64) 3 w' w.heap.size (fun _ => True) v0_ (splitRes c T l1 hn00) ∧ Below w.heap.size w w' := by
  have HR := Aside0.mk hr1
  have HT := Aside0.mk ht
  have hlen := hr1.2.1
  clear hr1 ht
  have HV : Aside0 (money_amount_valid.f c = some true) := ⟨by
    unfold money_amount_valid.f
    rw [if_pos hv.1, decide_eq_true hv.2]⟩
  have hmk := run_make_row' (P := Tryd.prog) 34 3 (.int .i64 0) 8 Tryd.underlying34 (by kernel_rfl) rfl .i64 .i64 l1.length (by omega) (by omega)
  go_enter Tryd.func15, Tryd.ntmps15
  go_wp2_with fail
  go_loopw [20] (fun v wr => ∃ (i : Nat) (s : Int), v = .int .i64 i ∧ i ≤ l1.length ∧ wr = (w.alloc (.cells #[.slice A1 l1.length c1] 34)).alloc (.cells #[.int .i64 s] 3) ∧ Aside0 (splitTotal (l1.drop i) s = some T)) (fun v _ => l1.length - (intOf v).toNat)
  case atStart => exact ⟨0, 0, rfl, by omega, rfl, ⟨by simpa using HT.out⟩⟩
  case round =>
    obtain ⟨i, s, rfl, hi, rfl, HS⟩ := hrel
    by_cases hlt : i < l1.length
    · have hd := HS.out
      rw [splitTotal_drop l1 i s hlt] at hd
      have hr2 : Kd.C (Kd.int .i64) ((w.alloc (.cells #[.slice A1 l1.length c1] 34)).alloc (.cells #[.int .i64 s] 3)) A1 l1.length l1 := Kd.C_below HR.out (below_alloc (below_alloc (Below.refl _ _) _) _)
      obtain ⟨ad, rfl, hcell⟩ := Kd.at_int hr2 (i : Int) (by omega) (by omega)
      rw [Int.toNat_natCast] at hcell
      have hltz : (i : Int) < (l1.length : Int) := by omega
      by_cases h0 : rd l1 i < 0 ∨ 1000000 < rd l1 i
      · rw [if_pos h0] at hd
        cases hd
      · rw [if_neg h0] at hd
        have h0b : decide (rd l1 i < 0) = false := decide_eq_false (by omega)
        have h1b : decide (1000000 < rd l1 i) = false := decide_eq_false (by omega)
        have HD := Aside0.mk hd
        clear hd HS h0
        go_wp2
        go_roundw
        case rel => exact ⟨i + 1, wrap64 (s + rd l1 i), by go_num, by omega, rfl, HD⟩
        case measure => simp [intOf]; omega
    · have e : i = l1.length := by omega
      subst e
      have hd := HS.out
      rw [List.drop_length] at hd
      obtain rfl := Option.some.inj hd
      clear hd HS hlt
      have hlb : decide (64 < l1.length) = false := decide_eq_false (by omega)
      have hlz : decide ((64 : Int) < (l1.length : Int)) = false := decide_eq_false (by omega)
      have hsz : (s == 0) = false := by simp; omega
      go_wp2_with fail
      refine (money_amount_valid.calls c _ _ HV.out).mono ?_
      rintro e w' ⟨rfl, ⟨nd, rfl⟩⟩
      go_upto_if 48 with (fail)
      go_cut [9] (fun v9 wc => ∃ (size sgn : Int), v9 = .int .i64 sgn ∧ ((c < 0 ∧ size = -c ∧ sgn = -1) ∨ (0 ≤ c ∧ size = c ∧ sgn = 1)) ∧ wc = (((w.alloc (.cells #[.slice A1 l1.length c1] 34)).alloc (.cells #[.int .i64 s] 3)).drewN nd).alloc (.cells #[.int .i64 size] 3))
      case first =>
        by_cases hc : c < 0
        · have hcb : decide (c < 0) = true := decide_eq_true hc
          have hcw := wrap_i64 (-c) (by omega) (by omega)
          go_wp2
          go_meet
          case rel => exact ⟨-c, -1, rfl, .inl ⟨hc, rfl, rfl⟩, rfl⟩
        · have hcb : decide (c < 0) = false := decide_eq_false hc
          go_wp2
          go_meet
          case rel => exact ⟨c, 1, rfl, .inr ⟨by omega, rfl, rfl⟩, rfl⟩
      case rest =>
        obtain ⟨size, sgn, rfl, hsg, rfl⟩ := hcut
        have s0 : 0 ≤ size := by omega
        have s1 : size ≤ 1000000000 := by omega
        obtain ⟨hTs, hlb2⟩ := splitTotal_sum l1 0 s HT.out (by omega) (by omega)
        rw [Int.zero_add] at hTs
        have HL := Aside0.mk hlb2
        have HTS := Aside0.mk hTs
        clear hTs hlb2
        have hn0 : 0 < l1.length := by
          cases l1 with
          | nil => have := HTS.out; simp at this; omega
          | cons x l => simp
        go_wp2_with fail
        go_region
        · obtain ⟨bp, hbp⟩ : ∃ b, b = w.heap.size + 1 + 1 + 1 := ⟨_, rfl⟩
          obtain ⟨bo, hbo⟩ : ∃ b, b = w.heap.size + 1 + 1 + 1 + 1 := ⟨_, rfl⟩
          rw [← hbo, ← hbp]
          have HS0 := split_start w A1 c1 l1.length s size nd bp bo (by omega) (by omega)
          unfold splitW at HS0
          generalize ((((((w.alloc (.cells #[.slice A1 l1.length c1] 34)).alloc (.cells #[.int .i64 s] 3)).drewN nd).alloc (.cells #[.int .i64 size] 3)).alloc (.cells (madeCells #[.int .i64 0] l1.length) 3)).alloc (.cells (madeCells #[.int .i64 0] l1.length) 3)).drew = W at HS0 ⊢
          have HS := Aside0.mk HS0
          have e0 := HS0.e0
          clear hmk hbp hbo HS0
          go_wp2_with fail
          go_loopw [13, 60] (fun v13 v60 wr => ∃ i : Nat, v13 = .int .i64 (leftAt size s l1 i) ∧ v60 = .int .i64 i ∧ i ≤ l1.length ∧ Aside0 (SplitSt w wr A1 c1 l1.length s size bp bo (fillP size s l1 i) (fillO l1.length i))) (fun _ v60 _ => l1.length - (intOf v60).toNat)
          case atStart => exact ⟨0, by simp [leftAt, qs], rfl, by omega, ⟨by simpa [fillP, fillO, qs] using HS.out⟩⟩
          case round =>
            clear e0 HS
            obtain ⟨i, rfl, rfl, hi, HS⟩ := hrel
            have hbd := leftAt_bd size s l1 i s0 hT HL.out HTS.out
            by_cases hlt : i < l1.length
            · have hltz : (i : Int) < (l1.length : Int) := by omega
              have hr2 : Kd.C (Kd.int .i64) wr A1 l1.length l1 := Kd.C_below HR.out HS.out.below
              obtain ⟨ad, rfl, hcell⟩ := Kd.at_int hr2 (i : Int) (by omega) (by omega)
              rw [Int.toNat_natCast] at hcell
              have hx := HL.out (rd l1 i) (rd_mem l1 i hlt)
              have hpr := prod_b s0 s1 hx.1 hx.2
              have hw := wrap_i64 (size * rd l1 i) (by omega) (by omega)
              have hq := quo_bd (size * rd l1 i) s hpr.1 hT
              have hsucc := leftAt_succ size s l1 i hlt
              have hbd2 := leftAt_bd size s l1 (i + 1) s0 hT HL.out HTS.out
              have hSet := Aside0.mk (((HS.out.setP i (size * rd l1 i / s)).setO i (i : Int)).drew)
              rw [fillP_set size s l1 i hlt, fillO_set l1.length i hlt] at hSet
              have hrdP := rd_fillP size s l1 i hlt
              obtain ⟨pr, hpr'⟩ : ∃ z, size * rd l1 i = z := ⟨_, rfl⟩
              obtain ⟨qu, hqu⟩ : ∃ z, pr / s = z := ⟨_, rfl⟩
              rw [hpr'] at hpr hw hq hsucc hrdP hSet
              rw [hqu] at hsucc hrdP hSet
              have f0 := HS.out.e0
              have f1 := HS.out.e1
              have f2 := HS.out.e2
              have fp := HS.out.cellP i hlt
              have fo := HS.out.cellO i hlt
              have sne : ¬ s = 0 := by omega
              have hi0 : (0 : Int) ≤ (i : Int) := by omega
              have hwq := wrap_i64 qu (by omega) (by omega)
              have fow : (wr.setCell ⟨bp, i, none⟩ (.int .i64 qu)).cell? ⟨bo, i, none⟩ = some (.int .i64 (rd (fillO l1.length i) i)) := (cell_farM _ _ _ _ (by show bo ≠ bp; exact HS.out.ne.symm)).trans fo.1
              have fox : (wr.setCell ⟨bp, i, none⟩ (.int .i64 qu)).frozen? ⟨bo, i, none⟩ = false := (World.frozen?_setCell ..).trans fo.2
              go_wp2_with fail
              go_region
              generalize ((wr.setCell ⟨bp, i, none⟩ (.int .i64 qu)).setCell ⟨bo, i, none⟩ (.int .i64 (i : Int))).drew = wr2 at hSet ⊢
              have fp2 := hSet.out.cellP i hlt
              rw [hrdP] at fp2
              have hwl := wrap_i64 (leftAt size s l1 i - qu) (by omega) (by omega)
              clear f0 f1 f2 fp fo fow fox hwq hw hq
              go_wp2
              go_roundw
              case rel => exact ⟨i + 1, by rw [hsucc], by go_num, by omega, hSet⟩
              case measure => simp [intOf]; omega
            · have e : i = l1.length := by omega
              subst e
              obtain ⟨ad, rfl, -⟩ := Kd.at_int HR.out (0 : Int) (by omega) (by omega)
              have hlend := left_end size s l1 hT HTS.out hn0
              have hso := sort_split64 l1 HS.out HR.out hn20 hn0 s0 s1 hT HL.out
              have hbL := leftAt_bd size s l1 l1.length s0 hT HL.out HTS.out
              have hqb := qs_bd size s l1 s0 hT HL.out HTS.out
              have hOl := ordL_length size s l1 hn0
              rw [fillP_all] at hso
              obtain ⟨m, hm⟩ : ∃ m : Nat, leftAt size s l1 l1.length = m := ⟨(leftAt size s l1 l1.length).toNat, by omega⟩
              rw [hm] at hlend hbL ⊢
              clear hlt HS hbd
              go_wp2_with (go_at_call 30; refine hso.mono ?_; rintro e w1 ⟨rfl, HS1⟩)
              go_loopw [92] (fun v92 wr => ∃ (k : Nat) (Pk : List Int), v92 = .int .i64 k ∧ k ≤ m ∧ Aside0 (SplitSt w wr (some ad) c1 l1.length s size bp bo Pk (ordL size s l1 hn0)) ∧ Aside0 (∀ y ∈ Pk, 0 ≤ y ∧ y ≤ size + k) ∧ Aside0 (incs Pk (((ordL size s l1 hn0).take m).drop k) = incs (qs size s l1) ((ordL size s l1 hn0).take m))) (fun v92 _ => m - (intOf v92).toNat)
              case atStart => exact ⟨0, qs size s l1, rfl, by omega, ⟨HS1⟩, ⟨by simpa using hqb⟩, ⟨rfl⟩⟩
              case round =>
                clear HS1 hqb
                obtain ⟨k, Pk, rfl, hk, HS, HB, HI⟩ := hrel
                by_cases hlt : k < m
                · have hltz : (k : Int) < (m : Int) := by omega
                  have hib := ordL_bd size s l1 hn0 k (by omega)
                  have fo := HS.out.cellO k (by omega)
                  have hI2 := HI.out
                  rw [take_drop_cons _ m k hlt (by omega), incs] at hI2
                  obtain ⟨ix, hix⟩ : ∃ ix : Nat, rd (ordL size s l1 hn0) k = ix := ⟨(rd (ordL size s l1 hn0) k).toNat, by omega⟩
                  rw [hix] at hib fo hI2
                  rw [Int.toNat_natCast] at hI2
                  have hixl : ix < l1.length := by omega
                  have hPl : Pk.length = l1.length := (Kd.R_reads' HS.out.rp).1.symm
                  have fp := HS.out.cellP ix hixl
                  have hpb := HB.out (rd Pk ix) (rd_mem Pk ix (by omega))
                  have hw := wrap_i64 (rd Pk ix + 1) (by omega) (by omega)
                  have hSet := Aside0.mk (HS.out.setP ix (rd Pk ix + 1))
                  have hI3 := Aside0.mk hI2
                  have hB3 : Aside0 (∀ y ∈ Pk.set ix (rd Pk ix + 1), 0 ≤ y ∧ y ≤ size + (k + 1 : Nat)) := ⟨by
                    intro y hy
                    rcases rd_set _ _ _ y hy with h | h
                    · have := HB.out y h; omega
                    · omega⟩
                  clear hI2 HI HS HB hix
                  go_wp2
                  go_roundw
                  case rel => exact ⟨k + 1, _, by go_num, by omega, ⟨by first | exact hSet.out | exact hSet.out.drew⟩, hB3, hI3⟩
                  case measure => simp [intOf]; omega
                · have e : k = m := by omega
                  subst e
                  clear hlt
                  have hI2 := HI.out
                  rw [List.drop_eq_nil_of_le (by rw [List.length_take]; omega), incs] at hI2
                  subst hI2
                  clear HI
                  obtain ⟨Pf, hPf⟩ : ∃ Pf, incs (qs size s l1) ((ordL size s l1 hn0).take k) = Pf := ⟨_, rfl⟩
                  rw [hPf] at HS HB
                  have hPl : Pf.length = l1.length := (Kd.R_reads' HS.out.rp).1.symm
                  have HPF := Aside0.mk hPf
                  clear hPf
                  go_wp2_with fail
                  go_loopw [105] (fun v105 wr => ∃ i : Nat, v105 = .int .i64 i ∧ i ≤ l1.length ∧ Aside0 (SplitSt w wr (some ad) c1 l1.length s size bp bo (signs Pf sgn i) (ordL size s l1 hn0))) (fun v105 _ => l1.length - (intOf v105).toNat)
                  case atStart => exact ⟨0, rfl, by omega, ⟨by simpa [signs] using HS.out⟩⟩
                  case round =>
                    clear HS
                    obtain ⟨i, rfl, hi, HS⟩ := hrel
                    by_cases hlt : i < l1.length
                    · have hltz : (i : Int) < (l1.length : Int) := by omega
                      have fp := HS.out.cellP i hlt
                      have hi0 : (0 : Int) ≤ (i : Int) := by omega
                      have hpb := HB.out (rd Pf i) (rd_mem Pf i (by omega))
                      have hSet := Aside0.mk (HS.out.setP i (rd Pf i * sgn))
                      rw [signs_set Pf sgn i (by omega)] at hSet
                      rw [rd_signs Pf sgn i (by omega)] at fp
                      have hw : IntKind.i64.wrap (rd Pf i * sgn) = rd Pf i * sgn := by
                        refine wrap_i64 _ ?_ ?_
                        · rcases hsg with ⟨_, _, e⟩ | ⟨_, _, e⟩ <;> rw [e] <;> omega
                        · rcases hsg with ⟨_, _, e⟩ | ⟨_, _, e⟩ <;> rw [e] <;> omega
                      obtain ⟨px, hpx⟩ : ∃ px, rd Pf i * sgn = px := ⟨_, rfl⟩
                      have HPX := Aside0.mk hpx
                      have mw : IntKind.i64.wrap (rd Pf i * sgn) = px := hw.trans hpx
                      rw [hpx] at hSet
                      clear HS hsg hpx hw
                      go_wp2
                      go_roundw
                      case rel => exact ⟨i + 1, by go_num, by omega, ⟨by first | exact hSet.out | exact hSet.out.drew⟩⟩
                      case measure => simp [intOf]; omega
                    · have e : i = l1.length := by omega
                      subst e
                      go_wp2
                      go_ret2
                      have hr := splitRes_of c s l1 hn0 size sgn hsg k hm Pf HPF.out
                      have hs2 := signs_all Pf sgn l1.length hPl
                      refine ⟨_, rfl, ?_, HS.out.below⟩
                      rw [hr, ← hs2]
                      exact Kd.R_mono HS.out.rp (fun _ _ => trivial)
        · obtain ⟨bo, hbo⟩ : ∃ b, b = w.heap.size + 1 + 1 + 1 := ⟨_, rfl⟩
          obtain ⟨bp, hbp⟩ : ∃ b, b = w.heap.size + 1 + 1 + 1 + 1 := ⟨_, rfl⟩
          rw [← hbp, ← hbo]
          have HS0 := split_start w A1 c1 l1.length s size nd bp bo (by omega) (by omega)
          unfold splitW at HS0
          generalize ((((((w.alloc (.cells #[.slice A1 l1.length c1] 34)).alloc (.cells #[.int .i64 s] 3)).drewN nd).alloc (.cells #[.int .i64 size] 3)).alloc (.cells (madeCells #[.int .i64 0] l1.length) 3)).alloc (.cells (madeCells #[.int .i64 0] l1.length) 3)).drew = W at HS0 ⊢
          have HS := Aside0.mk HS0
          have e0 := HS0.e0
          clear hmk hbp hbo HS0
          go_wp2_with fail
          go_loopw [13, 60] (fun v13 v60 wr => ∃ i : Nat, v13 = .int .i64 (leftAt size s l1 i) ∧ v60 = .int .i64 i ∧ i ≤ l1.length ∧ Aside0 (SplitSt w wr A1 c1 l1.length s size bp bo (fillP size s l1 i) (fillO l1.length i))) (fun _ v60 _ => l1.length - (intOf v60).toNat)
          case atStart => exact ⟨0, by simp [leftAt, qs], rfl, by omega, ⟨by simpa [fillP, fillO, qs] using HS.out⟩⟩
          case round =>
            clear e0 HS
            obtain ⟨i, rfl, rfl, hi, HS⟩ := hrel
            have hbd := leftAt_bd size s l1 i s0 hT HL.out HTS.out
            by_cases hlt : i < l1.length
            · have hltz : (i : Int) < (l1.length : Int) := by omega
              have hr2 : Kd.C (Kd.int .i64) wr A1 l1.length l1 := Kd.C_below HR.out HS.out.below
              obtain ⟨ad, rfl, hcell⟩ := Kd.at_int hr2 (i : Int) (by omega) (by omega)
              rw [Int.toNat_natCast] at hcell
              have hx := HL.out (rd l1 i) (rd_mem l1 i hlt)
              have hpr := prod_b s0 s1 hx.1 hx.2
              have hw := wrap_i64 (size * rd l1 i) (by omega) (by omega)
              have hq := quo_bd (size * rd l1 i) s hpr.1 hT
              have hsucc := leftAt_succ size s l1 i hlt
              have hbd2 := leftAt_bd size s l1 (i + 1) s0 hT HL.out HTS.out
              have hSet := Aside0.mk (((HS.out.setP i (size * rd l1 i / s)).setO i (i : Int)).drew)
              rw [fillP_set size s l1 i hlt, fillO_set l1.length i hlt] at hSet
              have hrdP := rd_fillP size s l1 i hlt
              obtain ⟨pr, hpr'⟩ : ∃ z, size * rd l1 i = z := ⟨_, rfl⟩
              obtain ⟨qu, hqu⟩ : ∃ z, pr / s = z := ⟨_, rfl⟩
              rw [hpr'] at hpr hw hq hsucc hrdP hSet
              rw [hqu] at hsucc hrdP hSet
              have f0 := HS.out.e0
              have f1 := HS.out.e1
              have f2 := HS.out.e2
              have fp := HS.out.cellP i hlt
              have fo := HS.out.cellO i hlt
              have sne : ¬ s = 0 := by omega
              have hi0 : (0 : Int) ≤ (i : Int) := by omega
              have hwq := wrap_i64 qu (by omega) (by omega)
              have fow : (wr.setCell ⟨bp, i, none⟩ (.int .i64 qu)).cell? ⟨bo, i, none⟩ = some (.int .i64 (rd (fillO l1.length i) i)) := (cell_farM _ _ _ _ (by show bo ≠ bp; exact HS.out.ne.symm)).trans fo.1
              have fox : (wr.setCell ⟨bp, i, none⟩ (.int .i64 qu)).frozen? ⟨bo, i, none⟩ = false := (World.frozen?_setCell ..).trans fo.2
              go_wp2_with fail
              go_region
              generalize ((wr.setCell ⟨bp, i, none⟩ (.int .i64 qu)).setCell ⟨bo, i, none⟩ (.int .i64 (i : Int))).drew = wr2 at hSet ⊢
              have fp2 := hSet.out.cellP i hlt
              rw [hrdP] at fp2
              have hwl := wrap_i64 (leftAt size s l1 i - qu) (by omega) (by omega)
              clear f0 f1 f2 fp fo fow fox hwq hw hq
              go_wp2
              go_roundw
              case rel => exact ⟨i + 1, by rw [hsucc], by go_num, by omega, hSet⟩
              case measure => simp [intOf]; omega
            · have e : i = l1.length := by omega
              subst e
              obtain ⟨ad, rfl, -⟩ := Kd.at_int HR.out (0 : Int) (by omega) (by omega)
              have hlend := left_end size s l1 hT HTS.out hn0
              have hso := sort_split64 l1 HS.out HR.out hn20 hn0 s0 s1 hT HL.out
              have hbL := leftAt_bd size s l1 l1.length s0 hT HL.out HTS.out
              have hqb := qs_bd size s l1 s0 hT HL.out HTS.out
              have hOl := ordL_length size s l1 hn0
              rw [fillP_all] at hso
              obtain ⟨m, hm⟩ : ∃ m : Nat, leftAt size s l1 l1.length = m := ⟨(leftAt size s l1 l1.length).toNat, by omega⟩
              rw [hm] at hlend hbL ⊢
              clear hlt HS hbd
              go_wp2_with (go_at_call 30; refine hso.mono ?_; rintro e w1 ⟨rfl, HS1⟩)
              go_loopw [92] (fun v92 wr => ∃ (k : Nat) (Pk : List Int), v92 = .int .i64 k ∧ k ≤ m ∧ Aside0 (SplitSt w wr (some ad) c1 l1.length s size bp bo Pk (ordL size s l1 hn0)) ∧ Aside0 (∀ y ∈ Pk, 0 ≤ y ∧ y ≤ size + k) ∧ Aside0 (incs Pk (((ordL size s l1 hn0).take m).drop k) = incs (qs size s l1) ((ordL size s l1 hn0).take m))) (fun v92 _ => m - (intOf v92).toNat)
              case atStart => exact ⟨0, qs size s l1, rfl, by omega, ⟨HS1⟩, ⟨by simpa using hqb⟩, ⟨rfl⟩⟩
              case round =>
                clear HS1 hqb
                obtain ⟨k, Pk, rfl, hk, HS, HB, HI⟩ := hrel
                by_cases hlt : k < m
                · have hltz : (k : Int) < (m : Int) := by omega
                  have hib := ordL_bd size s l1 hn0 k (by omega)
                  have fo := HS.out.cellO k (by omega)
                  have hI2 := HI.out
                  rw [take_drop_cons _ m k hlt (by omega), incs] at hI2
                  obtain ⟨ix, hix⟩ : ∃ ix : Nat, rd (ordL size s l1 hn0) k = ix := ⟨(rd (ordL size s l1 hn0) k).toNat, by omega⟩
                  rw [hix] at hib fo hI2
                  rw [Int.toNat_natCast] at hI2
                  have hixl : ix < l1.length := by omega
                  have hPl : Pk.length = l1.length := (Kd.R_reads' HS.out.rp).1.symm
                  have fp := HS.out.cellP ix hixl
                  have hpb := HB.out (rd Pk ix) (rd_mem Pk ix (by omega))
                  have hw := wrap_i64 (rd Pk ix + 1) (by omega) (by omega)
                  have hSet := Aside0.mk (HS.out.setP ix (rd Pk ix + 1))
                  have hI3 := Aside0.mk hI2
                  have hB3 : Aside0 (∀ y ∈ Pk.set ix (rd Pk ix + 1), 0 ≤ y ∧ y ≤ size + (k + 1 : Nat)) := ⟨by
                    intro y hy
                    rcases rd_set _ _ _ y hy with h | h
                    · have := HB.out y h; omega
                    · omega⟩
                  clear hI2 HI HS HB hix
                  go_wp2
                  go_roundw
                  case rel => exact ⟨k + 1, _, by go_num, by omega, ⟨by first | exact hSet.out | exact hSet.out.drew⟩, hB3, hI3⟩
                  case measure => simp [intOf]; omega
                · have e : k = m := by omega
                  subst e
                  clear hlt
                  have hI2 := HI.out
                  rw [List.drop_eq_nil_of_le (by rw [List.length_take]; omega), incs] at hI2
                  subst hI2
                  clear HI
                  obtain ⟨Pf, hPf⟩ : ∃ Pf, incs (qs size s l1) ((ordL size s l1 hn0).take k) = Pf := ⟨_, rfl⟩
                  rw [hPf] at HS HB
                  have hPl : Pf.length = l1.length := (Kd.R_reads' HS.out.rp).1.symm
                  have HPF := Aside0.mk hPf
                  clear hPf
                  go_wp2_with fail
                  go_loopw [105] (fun v105 wr => ∃ i : Nat, v105 = .int .i64 i ∧ i ≤ l1.length ∧ Aside0 (SplitSt w wr (some ad) c1 l1.length s size bp bo (signs Pf sgn i) (ordL size s l1 hn0))) (fun v105 _ => l1.length - (intOf v105).toNat)
                  case atStart => exact ⟨0, rfl, by omega, ⟨by simpa [signs] using HS.out⟩⟩
                  case round =>
                    clear HS
                    obtain ⟨i, rfl, hi, HS⟩ := hrel
                    by_cases hlt : i < l1.length
                    · have hltz : (i : Int) < (l1.length : Int) := by omega
                      have fp := HS.out.cellP i hlt
                      have hi0 : (0 : Int) ≤ (i : Int) := by omega
                      have hpb := HB.out (rd Pf i) (rd_mem Pf i (by omega))
                      have hSet := Aside0.mk (HS.out.setP i (rd Pf i * sgn))
                      rw [signs_set Pf sgn i (by omega)] at hSet
                      rw [rd_signs Pf sgn i (by omega)] at fp
                      have hw : IntKind.i64.wrap (rd Pf i * sgn) = rd Pf i * sgn := by
                        refine wrap_i64 _ ?_ ?_
                        · rcases hsg with ⟨_, _, e⟩ | ⟨_, _, e⟩ <;> rw [e] <;> omega
                        · rcases hsg with ⟨_, _, e⟩ | ⟨_, _, e⟩ <;> rw [e] <;> omega
                      obtain ⟨px, hpx⟩ : ∃ px, rd Pf i * sgn = px := ⟨_, rfl⟩
                      have HPX := Aside0.mk hpx
                      have mw : IntKind.i64.wrap (rd Pf i * sgn) = px := hw.trans hpx
                      rw [hpx] at hSet
                      clear HS hsg hpx hw
                      go_wp2
                      go_roundw
                      case rel => exact ⟨i + 1, by go_num, by omega, ⟨by first | exact hSet.out | exact hSet.out.drew⟩⟩
                      case measure => simp [intOf]; omega
                    · have e : i = l1.length := by omega
                      subst e
                      go_wp2
                      go_ret2
                      have hr := splitRes_of c s l1 hn0 size sgn hsg k hm Pf HPF.out
                      have hs2 := signs_all Pf sgn l1.length hPl
                      refine ⟨_, rfl, ?_, HS.out.below⟩
                      rw [hr, ← hs2]
                      exact Kd.R_mono HS.out.rp (fun _ _ => trivial)
def money_Split.f (a0 : Int) (l1 : List Int) : Option (List Int × Int) :=
  match splitTotal l1 0 with
  | none => some ([], 1)
  | some T => if ¬ (-1000000000 ≤ a0 ∧ a0 ≤ 1000000000) ∨ 64 < l1.length ∨ T = 0 then some ([], 1) else if h : l1.length ≤ 64 ∧ 0 < l1.length then some (splitRes a0 T l1 h.2, 0) else none
theorem money_Split.calls (a0 : Int) (A1 : Option Addr) (c1 : Nat) (l1 : List Int) (r1 : List Int) (r2 : Int) (w : World) (hr1 : Kd.C (Kd.int .i64) w A1 l1.length l1) (hc1 : l1.length ≤ c1) (h : money_Split.f a0 l1 = some (r1, r2)) :
    Calls Tryd.prog 15 #[.int .i64 a0, .slice A1 l1.length c1] w fun e w' => ∃ v0_ : Value, e = .returned (.tuple #[v0_, .int .i64 r2]) ∧ Kd.R (Kd.int .i64) 3 w' w.heap.size (fun _ => True) v0_ r1 ∧ Below w.heap.size w w' := by
  unfold money_Split.f at h
  split at h
  · rename_i ht
    simp only [Option.some.injEq, Prod.mk.injEq] at h
    obtain ⟨rfl, rfl⟩ := h
    refine (split_a a0 A1 c1 l1 w hr1 hc1 ht).mono ?_
    rintro e w' ⟨rfl, hb⟩
    exact ⟨_, rfl, Kd.R_nil _ _ _ _ _, hb⟩
  · rename_i T ht
    split at h
    · rename_i hb0
      simp only [Option.some.injEq, Prod.mk.injEq] at h
      obtain ⟨rfl, rfl⟩ := h
      refine (split_b a0 A1 c1 l1 T w hr1 hc1 ht hb0).mono ?_
      rintro e w' ⟨rfl, hb⟩
      exact ⟨_, rfl, Kd.R_nil _ _ _ _ _, hb⟩
    · rename_i hb0
      split at h
      · rename_i hn
        simp only [Option.some.injEq, Prod.mk.injEq] at h
        obtain ⟨rfl, rfl⟩ := h
        have hT : 1 ≤ T := by
          obtain ⟨e, hm⟩ := splitTotal_sum l1 0 T ht (by omega) (by omega)
          have := (sum_nonneg_le l1 0 hm).1
          omega
        exact split_c a0 A1 c1 l1 T w hr1 hc1 ht (by omega) (by omega) hT hn.1 hn.2
      · cases h

/-! ### cohousingref02_Same: function 22 -/
def cohousingref02_Same.l0 : Nat → List Int → List Int → Int → Option (Bool)
  | 0, _, _, _ => none
  | k + 1, x0, x1, x5 => if x5 < (x0.length : Int) then (if 0 ≤ x5 then (if x5 < (x1.length : Int) then (if (rd x0 x5) = (rd x1 x5) then (cohousingref02_Same.l0 k x0 x1 (wrap64 (x5 + 1))) else (some false)) else (none)) else (none)) else (some true)
def cohousingref02_Same.f (k : Nat) (l0 : List Int) (l1 : List Int) : Option (Bool) := if (l0.length : Int) = (l1.length : Int) then (cohousingref02_Same.l0 k l0 l1 0) else (some false)
theorem cohousingref02_Same.mono_l : ∀ k, (∀ y0 y1 y2, LeO (cohousingref02_Same.l0 k y0 y1 y2) (cohousingref02_Same.l0 (k + 1) y0 y1 y2))
  | 0 => fun _ _ _ r h => by simp [cohousingref02_Same.l0] at h
  | k + 1 => by
    have ih0 := cohousingref02_Same.mono_l k
    · intro y0 y1 y2
      unfold cohousingref02_Same.l0
      repeat' first
      | (with_reducible exact ih0 _ _ _)
      | (with_reducible exact LeO.refl _)
      | (with_reducible exact LeO.none _)
      | (with_reducible refine LeO.ite ?_ ?_)
      | (with_reducible refine LeO.bind ?_ (fun _ => ?_))
      | exact ih0 _ _ _
      | exact LeO.none _
      | refine LeO.ite ?_ ?_
      | refine LeO.bind ?_ (fun _ => ?_)
theorem cohousingref02_Same.mono : ∀ a0 a1 k, LeO (cohousingref02_Same.f k a0 a1) (cohousingref02_Same.f (k + 1) a0 a1) := by
  intro a0 a1 k
  have ih0 := cohousingref02_Same.mono_l k
  unfold cohousingref02_Same.f
  repeat' first
      | (with_reducible exact ih0 _ _ _)
      | (with_reducible exact LeO.refl _)
      | (with_reducible exact LeO.none _)
      | (with_reducible refine LeO.ite ?_ ?_)
      | (with_reducible refine LeO.bind ?_ (fun _ => ?_))
      | exact ih0 _ _ _
      | exact LeO.none _
      | refine LeO.ite ?_ ?_
      | refine LeO.bind ?_ (fun _ => ?_)
set_option maxHeartbeats 8000000 in
set_option maxRecDepth 100000 in
theorem cohousingref02_Same.calls (k : Nat) (A0 : Option Addr) (c0 : Nat) (l0 : List Int) (A1 : Option Addr) (c1 : Nat) (l1 : List Int) (r : Bool) (w : World) (hr0 : Kd.C (Kd.int .i64) w A0 l0.length l0) (hc0 : l0.length ≤ c0) (hr1 : Kd.C (Kd.int .i64) w A1 l1.length l1) (hc1 : l1.length ≤ c1) (h : cohousingref02_Same.f k l0 l1 = some r) :
    Calls Tryd.prog 22 #[.slice A0 l0.length c0, .slice A1 l1.length c1] w fun e w' => e = .returned (.bool r) ∧ Drawn0 w w' := by
  have HR0 := Aside0.mk hr0
  have HC0 := Aside0.mk hc0
  clear hr0 hc0
  have HR1 := Aside0.mk hr1
  have HC1 := Aside0.mk hc1
  clear hr1 hc1
  have H : (if (l0.length : Int) = (l1.length : Int) then (cohousingref02_Same.l0 k l0 l1 0) else (some false)) = some r := h
  clear h
  by_cases c3 : (l0.length : Int) = (l1.length : Int)
  · rw [if_pos c3] at H
    have c3b0 : ((l0.length : Int) == (l1.length : Int)) = true := beq_iff_eq.mpr c3
    have c3b1 : ((l0.length : Int) != (l1.length : Int)) = false := bne_eq_false_iff_eq.mpr c3
    have c3b2 : (l0.length == l1.length) = true := by first | simpa using c3 | (simp at c3 ⊢; omega)
    clear c3
    have H' := Aside0.mk H
    clear H
    go_enter Tryd.func22, Tryd.ntmps22
    go_wp2
    repeat (go_quiet (fail); try go_wp2)
    go_loopg [5] k (fun kq v5 w' => ∃ (x5_1 : Int), v5 = .int .i64 x5_1 ∧ Aside0 (cohousingref02_Same.l0 kq l0 l1 x5_1 = some r) ∧ Aside0 (kq ≤ k) ∧ Drawn0 w w')
    case atStart => exact ⟨(0), (by first | rfl | (simp; done) | (simp [*]; done)), H', ⟨Nat.le_refl _⟩, by repeat (first | exact Drawn0.refl _ | apply Drawn0.step)⟩
    case round =>
      clear H'
      try clear c1
      try clear c2
      try clear p2
      try clear c3
      try clear c3b0
      try clear c3b1
      try clear c3b2
      obtain ⟨x5_1, rfl, HA, HK1, ⟨m1, rfl⟩⟩ := hrel
      cases gk with
      | zero => exact absurd HA.out (by simp [cohousingref02_Same.l0])
      | succ k1 =>
        have H := HA.out
        clear HA
        simp only [cohousingref02_Same.l0] at H
        by_cases c4 : x5_1 < (l0.length : Int)
        · rw [if_pos c4] at H
          have c4b0 : decide (x5_1 < (l0.length : Int)) = true := decide_eq_true c4
          clear c4
          by_cases c5 : 0 ≤ x5_1
          · rw [if_pos c5] at H
            have c5b0 : decide (0 ≤ x5_1) = true := decide_eq_true c5
            clear c5
            by_cases c6 : x5_1 < (l1.length : Int)
            · rw [if_pos c6] at H
              have c6b0 : decide (x5_1 < (l1.length : Int)) = true := decide_eq_true c6
              clear c6
              by_cases c7 : (rd l0 x5_1) = (rd l1 x5_1)
              · rw [if_pos c7] at H
                have c7b0 : ((rd l0 x5_1) == (rd l1 x5_1)) = true := beq_iff_eq.mpr c7
                have c7b1 : ((rd l0 x5_1) != (rd l1 x5_1)) = false := bne_eq_false_iff_eq.mpr c7
                clear c7
                have H' := Aside0.mk H
                clear H
                have p113 : 0 ≤ (x5_1 : Int) := of_decide_eq_true (by first | (with_reducible assumption) | assumption)
                have q113 : x5_1 < (l0.length : Int) := of_decide_eq_true (by first | (with_reducible assumption) | assumption)
                obtain ⟨ad113, e113, hx113_0⟩ := Kd.at_int HR0.out x5_1 p113 q113
                cases e113
                replace p113 := eq_true p113
                replace q113 := eq_true q113
                have p114 : 0 ≤ (x5_1 : Int) := of_decide_eq_true (by first | (with_reducible assumption) | assumption)
                have q114 : x5_1 < (l1.length : Int) := of_decide_eq_true (by first | (with_reducible assumption) | assumption)
                obtain ⟨ad114, e114, hx114_0⟩ := Kd.at_int HR1.out x5_1 p114 q114
                cases e114
                replace p114 := eq_true p114
                replace q114 := eq_true q114
                go_wp2
                repeat (go_quiet (fail); try go_wp2)
                go_roundg k1
                case measure => have := HK1.out; omega
                case rel => exact ⟨(wrap64 (x5_1 + 1)), (by first | rfl | (simp; done) | (simp [*]; done)), H', ⟨by have := HK1.out; omega⟩, by repeat (first | exact Drawn0.refl _ | apply Drawn0.step)⟩
              · rw [if_neg c7] at H
                have c7b0 : ((rd l0 x5_1) == (rd l1 x5_1)) = false := beq_eq_false_iff_ne.mpr c7
                have c7b1 : ((rd l0 x5_1) != (rd l1 x5_1)) = true := bne_iff_ne.mpr c7
                obtain rfl := Option.some.inj H
                have p113 : 0 ≤ (x5_1 : Int) := of_decide_eq_true (by first | (with_reducible assumption) | assumption)
                have q113 : x5_1 < (l0.length : Int) := of_decide_eq_true (by first | (with_reducible assumption) | assumption)
                obtain ⟨ad113, e113, hx113_0⟩ := Kd.at_int HR0.out x5_1 p113 q113
                cases e113
                replace p113 := eq_true p113
                replace q113 := eq_true q113
                have p114 : 0 ≤ (x5_1 : Int) := of_decide_eq_true (by first | (with_reducible assumption) | assumption)
                have q114 : x5_1 < (l1.length : Int) := of_decide_eq_true (by first | (with_reducible assumption) | assumption)
                obtain ⟨ad114, e114, hx114_0⟩ := Kd.at_int HR1.out x5_1 p114 q114
                cases e114
                replace p114 := eq_true p114
                replace q114 := eq_true q114
                go_wp2
                repeat (go_quiet (fail); try go_wp2)
                go_ret
                exact ⟨by first | rfl | (simp; done) | (simp [*]; done), by repeat (first | exact Drawn0.refl _ | apply Drawn0.step)⟩
            · rw [if_neg c6] at H
              exact absurd H (by simp)
          · rw [if_neg c5] at H
            exact absurd H (by simp)
        · rw [if_neg c4] at H
          have c4b0 : decide (x5_1 < (l0.length : Int)) = false := decide_eq_false c4
          clear c4
          obtain rfl := Option.some.inj H
          go_wp2
          repeat (go_quiet (fail); try go_wp2)
          go_ret
          exact ⟨by first | rfl | (simp; done) | (simp [*]; done), by repeat (first | exact Drawn0.refl _ | apply Drawn0.step)⟩
  · rw [if_neg c3] at H
    have c3b0 : ((l0.length : Int) == (l1.length : Int)) = false := beq_eq_false_iff_ne.mpr c3
    have c3b1 : ((l0.length : Int) != (l1.length : Int)) = true := bne_iff_ne.mpr c3
    have c3b2 : (l0.length == l1.length) = false := by first | simpa using c3 | (simp at c3 ⊢; omega)
    obtain rfl := Option.some.inj H
    go_enter Tryd.func22, Tryd.ntmps22
    go_wp2
    repeat (go_quiet (fail); try go_wp2)
    go_ret
    exact ⟨by first | rfl | (simp; done) | (simp [*]; done), by repeat (first | exact Drawn0.refl _ | apply Drawn0.step)⟩

/-! ### strconv_Itoa: function 33 -/
-- by hand: strconv.Itoa
def strconv_Itoa.f (a0 : Int) : Option ByteArray := if inI64 a0 then some ⟨(Lib.itoa a0).toArray⟩ else none
theorem strconv_Itoa.calls (a0 : Int) (r : ByteArray) (w : World) (hG : GL w) (h : strconv_Itoa.f a0 = some r) :
    Calls Tryd.prog 33 #[.int .i64 a0] w fun e w' => e = .returned (.string r) ∧ Below w.heap.size w w' := by
  unfold strconv_Itoa.f at h
  split at h
  · rename_i hn
    obtain rfl := Option.some.inj h
    refine (Tryd.strconv_Itoa a0 hn.1 hn.2 w hG.pow).mono ?_
    rintro e w' ⟨rfl, k, os, rfl⟩
    exact ⟨rfl, Lib.below_grow _ _ (Nat.le_refl _) _ _⟩
  · cases h

end Go.Proofs.YtcbhaoaameiacaaDoor.X
