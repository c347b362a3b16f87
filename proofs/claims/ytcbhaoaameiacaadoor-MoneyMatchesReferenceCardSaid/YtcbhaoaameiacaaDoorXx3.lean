-- Written by a program of mine (wip/tools/xprint.py) over the kit's print.py: printed functions and hand-proved ones side by side.
import Derived.Test.YtcbhaoaameiacaaDoorXx0
import Derived.Test.YtcbhaoaameiacaaDoorXx2
namespace Go.Proofs.YtcbhaoaameiacaaDoor.X
open Go.RowKit Go.Proofs.YtcbhaoaameiacaaDoorW.PrintWords Go.Proofs.YtcbhaoaameiacaaDoorW.PrintLast Go.Proofs.YtcbhaoaameiacaaDoorW.PrintMore
attribute [local go_sem] max2_int min2_int max_two min_two max_three min_three max_four min_four   -- for this text's walks alone
set_option linter.unusedVariables false
set_option linter.unusedSimpArgs false

/-! ### slices_rotateCmpFunc_int: function 64 -/
-- by hand: slices.rotateCmpFunc[int]
theorem wrap_i64 (x : Int) (h1 : -9223372036854775808 ≤ x) (h2 : x ≤ 9223372036854775807) : IntKind.i64.wrap x = x := by rw [IntKind.wrap_i64]; omega
def cmp3 (x y : Int) : Int := if x < y then -1 else if x > y then 1 else 0
theorem cmp_int (x y : Int) (w : World) : Calls Tryd.prog 32 #[.int .i64 x, .int .i64 y] w fun e w' => e = .returned (.int .i64 (cmp3 x y)) ∧ w' = w := by
  unfold cmp3
  by_cases h1 : x < y
  · have h1b : decide (x < y) = true := decide_eq_true h1
    rw [if_pos h1]
    go_enter Tryd.func32, Tryd.ntmps32
    go_wp2
    go_ret
    exact ⟨rfl, rfl⟩
  · have h1b : decide (x < y) = false := decide_eq_false h1
    rw [if_neg h1]
    by_cases h2 : y < x
    · have h2b : decide (y < x) = true := decide_eq_true h2
      rw [if_pos h2]
      go_enter Tryd.func32, Tryd.ntmps32
      go_wp2
      go_ret
      exact ⟨rfl, rfl⟩
    · have h2b : decide (y < x) = false := decide_eq_false h2
      rw [if_neg h2]
      go_enter Tryd.func32, Tryd.ntmps32
      go_wp2
      go_ret
      exact ⟨rfl, rfl⟩
/-- The remainder of a part. -/
def remOf (size total : Int) (l : List Int) (i : Nat) : Int := (size * l.getD i 0) % total
theorem prod_b {a b m n : Int} (h0 : 0 ≤ a) (h1 : a ≤ m) (h2 : 0 ≤ b) (h3 : b ≤ n) : 0 ≤ a * b ∧ a * b ≤ m * n :=
  ⟨Int.mul_nonneg h0 h2, Int.le_trans (Int.mul_le_mul_of_nonneg_right h1 h2) (Int.mul_le_mul_of_nonneg_left h3 (by omega))⟩
set_option maxHeartbeats 1000000 in
theorem split_cmp (gs gw gt : Nat) (size total : Int) (ad : Addr) (n c : Nat) (l : List Int) (x y : Nat) (w : World)
    (hs : w.cell? ⟨gs, 0, none⟩ = some (.int .i64 size)) (hw : w.cell? ⟨gw, 0, none⟩ = some (.slice (some ad) n c)) (ht : w.cell? ⟨gt, 0, none⟩ = some (.int .i64 total))
    (hx : w.cell? (ad.add x) = some (.int .i64 (l.getD x 0))) (hy : w.cell? (ad.add y) = some (.int .i64 (l.getD y 0))) (hxn : x < n) (hyn : y < n) (hn : n ≤ 64)
    (s0 : 0 ≤ size) (s1 : size ≤ 1000000000) (t0 : 1 ≤ total) (lx0 : 0 ≤ l.getD x 0) (lx1 : l.getD x 0 ≤ 1000000) (ly0 : 0 ≤ l.getD y 0) (ly1 : l.getD y 0 ≤ 1000000) :
    Calls Tryd.prog 31 #[.int .i64 x, .int .i64 y, .pointer (some ⟨gs, 0, none⟩), .pointer (some ⟨gw, 0, none⟩), .pointer (some ⟨gt, 0, none⟩)] w fun e w' =>
      e = .returned (.int .i64 (cmp3 (remOf size total l y) (remOf size total l x))) ∧ ∃ q, w' = w.drewN q := by
  unfold remOf
  have bx := prod_b s0 s1 lx0 lx1
  have by_ := prod_b s0 s1 ly0 ly1
  generalize l.getD x 0 = lx at *
  generalize l.getD y 0 = ly at *
  have wx := wrap_i64 (size * lx) (by omega) (by omega)
  have wy := wrap_i64 (size * ly) (by omega) (by omega)
  have tne : ¬ total = 0 := by omega
  have hxz : (x : Int) < (n : Int) := by omega
  have hyz : (y : Int) < (n : Int) := by omega
  have hx0 : (0 : Int) ≤ (x : Int) := by omega
  have hy0 : (0 : Int) ≤ (y : Int) := by omega
  obtain ⟨px, hpx⟩ : ∃ z, size * lx = z := ⟨_, rfl⟩
  obtain ⟨py, hpy⟩ : ∃ z, size * ly = z := ⟨_, rfl⟩
  have HX := Lib.hid hpx
  have HY := Lib.hid hpy
  rw [hpx] at bx wx ⊢
  rw [hpy] at by_ wy ⊢
  have mx : IntKind.i64.wrap (size * lx) = px := by rw [hpx]; exact wx
  have my : IntKind.i64.wrap (size * ly) = py := by rw [hpy]; exact wy
  clear hpx hpy
  go_enter Tryd.func31, Tryd.ntmps31
  go_wp2_with fail
  go_quiet ((go_at_call 32; exact Calls.quiet_of_same (cmp_int _ _ _)))
  go_wp2
  go_ret
  exact ⟨rfl, _, rfl⟩
/-- The sum of the weights, if each is one. -/
def splitTotal : List Int → Int → Option Int
  | [], s => some s
  | x :: l, s => if x < 0 ∨ 1000000 < x then none else splitTotal l (wrap64 (s + x))
theorem splitTotal_drop (l : List Int) (i : Nat) (s : Int) (hi : i < l.length) : splitTotal (l.drop i) s = if rd l i < 0 ∨ 1000000 < rd l i then none else splitTotal (l.drop (i + 1)) (wrap64 (s + rd l i)) := by
  rw [List.drop_eq_getElem_cons hi, splitTotal]
  have e : rd l i = l[i] := by unfold rd; simp [hi]
  rw [e]
set_option maxRecDepth 100000 in
set_option maxHeartbeats 4000000 in
theorem split_a (c : Int) (A1 : Option Addr) (c1 : Nat) (l1 : List Int) (w : World) (hr1 : Kd.C (Kd.int .i64) w A1 l1.length l1) (hc1 : l1.length ≤ c1)
    (ht : splitTotal l1 0 = none) :
    Calls Tryd.prog 15 #[.int .i64 c, .slice A1 l1.length c1] w fun e w' => e = .returned (.tuple #[.slice none 0 0, .int .i64 1]) ∧ Below w.heap.size w w' := by
  have HR := Aside0.mk hr1
  have HT := Aside0.mk ht
  have hlen := hr1.2.1
  clear hr1 ht
  go_enter Tryd.func15, Tryd.ntmps15
  go_wp2_with fail
  go_loopw [20] (fun v wr => ∃ (i : Nat) (s : Int), v = .int .i64 i ∧ i ≤ l1.length ∧ wr = (w.alloc (.cells #[.slice A1 l1.length c1] 34)).alloc (.cells #[.int .i64 s] 3) ∧ Aside0 (splitTotal (l1.drop i) s = none)) (fun v _ => l1.length - (intOf v).toNat)
  case atStart => exact ⟨0, 0, rfl, by omega, rfl, ⟨by simpa using HT.out⟩⟩
  case round =>
    obtain ⟨i, s, rfl, hi, rfl, HS⟩ := hrel
    by_cases hlt : i < l1.length
    · have hd := HS.out
      rw [splitTotal_drop l1 i s hlt] at hd
      have hr2 : Kd.C (Kd.int .i64) ((w.alloc (.cells #[.slice A1 l1.length c1] 34)).alloc (.cells #[.int .i64 s] 3)) A1 l1.length l1 := Kd.C_below HR.out (below_alloc (below_alloc (Below.refl _ _) _) _)
      obtain ⟨ad, rfl, hcell⟩ := Kd.at_int hr2 (i : Int) (by omega) (by omega)
      rw [Int.toNat_natCast] at hcell
      have hltz : (i : Int) < (l1.length : Int) := by omega
      by_cases h0 : rd l1 i < 0
      · have h0b : decide (rd l1 i < 0) = true := decide_eq_true h0
        go_wp2
        go_ret2
        exact ⟨rfl, below_alloc (below_alloc (Below.refl _ _) _) _⟩
      · have h0b : decide (rd l1 i < 0) = false := decide_eq_false h0
        by_cases h1 : 1000000 < rd l1 i
        · have h1b : decide (1000000 < rd l1 i) = true := decide_eq_true h1
          go_wp2
          go_ret2
          exact ⟨rfl, below_alloc (below_alloc (Below.refl _ _) _) _⟩
        · have h1b : decide (1000000 < rd l1 i) = false := decide_eq_false h1
          rw [if_neg (by omega)] at hd
          have HD := Aside0.mk hd
          clear hd HS
          go_wp2
          go_roundw
          case rel => exact ⟨i + 1, wrap64 (s + rd l1 i), by go_num, by omega, rfl, HD⟩
          case measure => simp [intOf]; omega
    · have e : i = l1.length := by omega
      subst e
      have hd := HS.out
      rw [List.drop_length] at hd
      cases hd
set_option maxRecDepth 100000 in
set_option maxHeartbeats 8000000 in
theorem split_b (c : Int) (A1 : Option Addr) (c1 : Nat) (l1 : List Int) (T : Int) (w : World) (hr1 : Kd.C (Kd.int .i64) w A1 l1.length l1) (hc1 : l1.length ≤ c1)
    (ht : splitTotal l1 0 = some T) (hb : ¬ (-1000000000 ≤ c ∧ c ≤ 1000000000) ∨ 64 < l1.length ∨ T = 0) :
    Calls Tryd.prog 15 #[.int .i64 c, .slice A1 l1.length c1] w fun e w' => e = .returned (.tuple #[.slice none 0 0, .int .i64 1]) ∧ Below w.heap.size w w' := by
  have HR := Aside0.mk hr1
  have HT := Aside0.mk ht
  have hlen := hr1.2.1
  clear hr1 ht
  have HV : Aside0 (money_amount_valid.f c = some (decide (-1000000000 ≤ c ∧ c ≤ 1000000000))) := ⟨by
    unfold money_amount_valid.f
    by_cases h1 : -1000000000 ≤ c
    · rw [if_pos h1]; congr 1; rw [decide_eq_decide]; omega
    · rw [if_neg h1, decide_eq_false (by omega)]⟩
  go_enter Tryd.func15, Tryd.ntmps15
  go_wp2_with fail
  go_loopw [20] (fun v wr => ∃ (i : Nat) (s : Int), v = .int .i64 i ∧ i ≤ l1.length ∧ wr = (w.alloc (.cells #[.slice A1 l1.length c1] 34)).alloc (.cells #[.int .i64 s] 3) ∧ Aside0 (splitTotal (l1.drop i) s = some T)) (fun v _ => l1.length - (intOf v).toNat)
  case atStart => exact ⟨0, 0, rfl, by omega, rfl, ⟨by simpa using HT.out⟩⟩
  case round =>
    obtain ⟨i, s, rfl, hi, rfl, HS⟩ := hrel
    by_cases hlt : i < l1.length
    · have hd := HS.out
      rw [splitTotal_drop l1 i s hlt] at hd
      have hr2 : Kd.C (Kd.int .i64) ((w.alloc (.cells #[.slice A1 l1.length c1] 34)).alloc (.cells #[.int .i64 s] 3)) A1 l1.length l1 := Kd.C_below HR.out (below_alloc (below_alloc (Below.refl _ _) _) _)
      obtain ⟨ad, rfl, hcell⟩ := Kd.at_int hr2 (i : Int) (by omega) (by omega)
      rw [Int.toNat_natCast] at hcell
      have hltz : (i : Int) < (l1.length : Int) := by omega
      by_cases h0 : rd l1 i < 0 ∨ 1000000 < rd l1 i
      · rw [if_pos h0] at hd
        cases hd
      · rw [if_neg h0] at hd
        have h0b : decide (rd l1 i < 0) = false := decide_eq_false (by omega)
        have h1b : decide (1000000 < rd l1 i) = false := decide_eq_false (by omega)
        have HD := Aside0.mk hd
        clear hd HS h0
        go_wp2
        go_roundw
        case rel => exact ⟨i + 1, wrap64 (s + rd l1 i), by go_num, by omega, rfl, HD⟩
        case measure => simp [intOf]; omega
    · have e : i = l1.length := by omega
      subst e
      have hd := HS.out
      rw [List.drop_length] at hd
      obtain rfl := Option.some.inj hd
      clear hd HS hlt
      by_cases hv : (-1000000000 ≤ c ∧ c ≤ 1000000000)
      · rw [decide_eq_true hv] at HV
        by_cases hl : 64 < l1.length
        · have hlb : decide (64 < l1.length) = true := decide_eq_true hl
          have hlz : decide ((64 : Int) < (l1.length : Int)) = true := decide_eq_true (by omega)
          clear hb
          go_wp2_with fail
          refine (money_amount_valid.calls c _ _ HV.out).mono ?_
          rintro e w' ⟨rfl, ⟨nd, rfl⟩⟩
          go_wp2
          go_ret2
          exact ⟨rfl, pw_below_drewN (below_alloc (below_alloc (Below.refl _ _) _) _) _⟩
        · have hz : s = 0 := by omega
          subst hz
          have hlb : decide (64 < l1.length) = false := decide_eq_false hl
          have hlz : decide ((64 : Int) < (l1.length : Int)) = false := decide_eq_false (by omega)
          clear hb
          go_wp2_with fail
          refine (money_amount_valid.calls c _ _ HV.out).mono ?_
          rintro e w' ⟨rfl, ⟨nd, rfl⟩⟩
          go_wp2
          go_ret2
          exact ⟨rfl, pw_below_drewN (below_alloc (below_alloc (Below.refl _ _) _) _) _⟩
      · rw [decide_eq_false hv] at HV
        clear hb
        go_wp2_with fail
        refine (money_amount_valid.calls c _ _ HV.out).mono ?_
        rintro e w' ⟨rfl, ⟨nd, rfl⟩⟩
        go_wp2
        go_ret2
        exact ⟨rfl, pw_below_drewN (below_alloc (below_alloc (Below.refl _ _) _) _) _⟩
theorem splitTotal_sum : ∀ (l : List Int) (s T : Int), splitTotal l s = some T → 0 ≤ s → s + 1000000 * (l.length : Int) ≤ 4611686018427387904 → T = s + l.sum ∧ ∀ x ∈ l, 0 ≤ x ∧ x ≤ 1000000
  | [], s, T, h, h0, hb => by
    simp only [splitTotal, Option.some.injEq] at h
    subst h
    exact ⟨by simp, by simp⟩
  | x :: l, s, T, h, h0, hb => by
    rw [splitTotal] at h
    split at h
    · cases h
    · rename_i hx
      rw [List.length_cons, Int.natCast_succ] at hb
      have hl : (0 : Int) ≤ (l.length : Int) := Int.natCast_nonneg _
      have hw : wrap64 (s + x) = s + x := by unfold wrap64; omega
      rw [hw] at h
      obtain ⟨e, hm⟩ := splitTotal_sum l (s + x) T h (by omega) (by omega)
      refine ⟨by rw [e, List.sum_cons]; omega, ?_⟩
      intro y hy
      rcases List.mem_cons.mp hy with rfl | hy
      · omega
      · exact hm y hy
/-- The parts rounded down, and the remainders. -/
def qs (size T : Int) (l : List Int) : List Int := l.map (fun x => size * x / T)
def rs (size T : Int) (l : List Int) : List Int := l.map (fun x => size * x % T)
theorem qs_sum (size T : Int) : ∀ l : List Int, T * (qs size T l).sum + (rs size T l).sum = size * l.sum
  | [] => by simp [qs, rs]
  | x :: l => by
    have h := qs_sum size T l
    have e := Int.mul_ediv_add_emod (size * x) T
    simp only [qs, rs, List.map_cons, List.sum_cons, Int.mul_add] at h ⊢
    omega
theorem rs_bd (size T : Int) (hT : 1 ≤ T) : ∀ l : List Int, 0 ≤ (rs size T l).sum ∧ (rs size T l).sum ≤ (l.length : Int) * (T - 1)
  | [] => by simp [rs]
  | x :: l => by
    have h := rs_bd size T hT l
    have e0 := Int.emod_nonneg (size * x) (show T ≠ 0 by omega)
    have e1 := Int.emod_lt_of_pos (size * x) (show 0 < T by omega)
    simp only [rs, List.map_cons, List.sum_cons, List.length_cons, Int.natCast_succ, Int.add_mul, Int.one_mul] at h ⊢
    omega
theorem qs_nonneg (size T : Int) (hs : 0 ≤ size) (hT : 1 ≤ T) : ∀ l : List Int, (∀ x ∈ l, 0 ≤ x ∧ x ≤ 1000000) → 0 ≤ (qs size T l).sum
  | [], _ => by simp [qs]
  | x :: l, h => by
    have hi := qs_nonneg size T hs hT l (fun y hy => h y (List.mem_cons_of_mem _ hy))
    have hx := h x (List.mem_cons_self)
    have h2 : 0 ≤ size * x / T := Int.ediv_nonneg (Int.mul_nonneg hs hx.1) (by omega)
    simp only [qs, List.map_cons, List.sum_cons] at hi ⊢
    omega
theorem sum_nonneg_le : ∀ (l : List Int) (i : Nat), (∀ x ∈ l, 0 ≤ x ∧ x ≤ 1000000) → 0 ≤ l.sum ∧ (l.take i).sum ≤ l.sum
  | [], i, _ => by simp
  | x :: l, i, h => by
    have hx := h x (List.mem_cons_self)
    have hh : ∀ y ∈ l, 0 ≤ y ∧ y ≤ 1000000 := fun y hy => h y (List.mem_cons_of_mem _ hy)
    cases i with
    | zero => have := sum_nonneg_le l 0 hh; simp only [List.take_zero, List.sum_nil, List.sum_cons]; omega
    | succ i => have := sum_nonneg_le l i hh; simp only [List.take_succ_cons, List.sum_cons]; omega
theorem rd_mem (l : List Int) (i : Nat) (hi : i < l.length) : rd l i ∈ l := by
  have e : rd l i = l[i] := by unfold rd; simp [hi]
  rw [e]
  exact List.getElem_mem hi
theorem quo_bd (p s : Int) (hp : 0 ≤ p) (hs : 1 ≤ s) : Int.tdiv p s = p / s ∧ 0 ≤ p / s ∧ p / s ≤ p := by
  refine ⟨Int.tdiv_eq_ediv_of_nonneg hp, Int.ediv_nonneg hp (by omega), Int.ediv_le_self s hp⟩
/-- What is left behind the first i parts. -/
def leftAt (size T : Int) (l : List Int) (i : Nat) : Int := size - (qs size T (l.take i)).sum
theorem leftAt_bd (size T : Int) (l : List Int) (i : Nat) (hs : 0 ≤ size) (hT : 1 ≤ T) (hl : ∀ x ∈ l, 0 ≤ x ∧ x ≤ 1000000) (e : T = l.sum) : 0 ≤ leftAt size T l i ∧ leftAt size T l i ≤ size := by
  have h1 := qs_sum size T (l.take i)
  have h2 := rs_bd size T hT (l.take i)
  have h3 := qs_nonneg size T hs hT (l.take i) (fun x hx => hl x (List.mem_of_mem_take hx))
  have h4 := (sum_nonneg_le l i hl).2
  have h5 : size * (l.take i).sum ≤ size * T := Int.mul_le_mul_of_nonneg_left (by omega) hs
  have h6 : T * (qs size T (l.take i)).sum ≤ T * size := by rw [Int.mul_comm T size]; omega
  have h7 := Int.le_of_mul_le_mul_left h6 (by omega)
  unfold leftAt
  omega
theorem left_end (size T : Int) (l : List Int) (hT : 1 ≤ T) (e : T = l.sum) (hn : 0 < l.length) : leftAt size T l l.length < (l.length : Int) := by
  have h1 := qs_sum size T l
  have h2 := rs_bd size T hT l
  unfold leftAt
  rw [List.take_length]
  have h3 : T * (size - (qs size T l).sum) ≤ (l.length : Int) * (T - 1) := by rw [Int.mul_sub, Int.mul_comm T size]; rw [← e] at h1; omega
  have h4 : (l.length : Int) * (T - 1) < T * (l.length : Int) := by rw [Int.mul_sub, Int.mul_comm T]; omega
  exact Int.lt_of_mul_lt_mul_left (Int.lt_of_le_of_lt h3 h4) (by omega)
theorem take_succ_eq (l : List Int) (i : Nat) (hi : i < l.length) : l.take (i + 1) = l.take i ++ [l[i]] := by
  rw [List.take_add_one]
  simp [hi]
def fillP (size T : Int) (l : List Int) (i : Nat) : List Int := qs size T (l.take i) ++ List.replicate (l.length - i) 0
def fillO (n i : Nat) : List Int := (List.range i).map Int.ofNat ++ List.replicate (n - i) 0
theorem set_fill (a : List Int) (m : Nat) (x : Int) (hm : 0 < m) : (a ++ List.replicate m 0).set a.length x = (a ++ [x]) ++ List.replicate (m - 1) 0 := by
  obtain ⟨k, rfl⟩ : ∃ k, m = k + 1 := ⟨m - 1, by omega⟩
  simp [List.replicate_succ]
theorem fillP_set (size T : Int) (l : List Int) (i : Nat) (hi : i < l.length) : (fillP size T l i).set i (size * rd l i / T) = fillP size T l (i + 1) := by
  have h := set_fill (qs size T (l.take i)) (l.length - i) (size * rd l i / T) (by omega)
  have hl : (qs size T (l.take i)).length = i := by simp [qs]; omega
  rw [hl] at h
  unfold fillP
  rw [h, show l.length - i - 1 = l.length - (i + 1) by omega]
  congr 1
  have e : rd l i = l[i] := by unfold rd; simp [hi]
  rw [e, take_succ_eq l i hi]
  simp only [qs, List.map_append, List.map_cons, List.map_nil]
theorem fillO_set (n i : Nat) (hi : i < n) : (fillO n i).set i (i : Int) = fillO n (i + 1) := by
  have h := set_fill ((List.range i).map Int.ofNat) (n - i) (i : Int) (by omega)
  rw [show ((List.range i).map Int.ofNat).length = i by simp] at h
  unfold fillO
  rw [h, show n - i - 1 = n - (i + 1) by omega, List.range_succ]
  simp
theorem leftAt_succ (size T : Int) (l : List Int) (i : Nat) (hi : i < l.length) : leftAt size T l (i + 1) = leftAt size T l i - size * rd l i / T := by
  unfold leftAt
  have e : rd l i = l[i] := by unfold rd; simp [hi]
  rw [e, take_succ_eq l i hi]
  simp only [qs, List.map_append, List.map_cons, List.map_nil, List.sum_append, List.sum_cons, List.sum_nil]
  omega
theorem rd_fillP (size T : Int) (l : List Int) (i : Nat) (hi : i < l.length) : rd (fillP size T l (i + 1)) i = size * rd l i / T := by
  rw [← fillP_set size T l i hi]
  unfold rd
  have : i < (fillP size T l i).length := by simp [fillP, qs]; omega
  simp [this]
/-- A row of n integers of the call's own: block b. -/
abbrev IRow (W : World) (hs n b : Nat) (P : List Int) : Prop := (Kd.int .i64).R 3 W hs (fun k => k = b) (.slice (some ⟨b, 0, none⟩) n n) P
theorem irow_new (W : World) (hs n b : Nat) (hn : n ≤ 64) (hb : hs ≤ b) (h : W.heap[b]? = some (.cells (madeCells #[Value.int .i64 0] n) 3 (0, 0))) : IRow W hs n b (List.replicate n 0) := by
  refine Kd.R_of_own ?_ ?_
  · refine ⟨by simp [encs], .inr ⟨b, n, madeCells #[Value.int .i64 0] n, by simp, hb, h, Nat.le_of_eq (by simp), ?_, ?_, ?_⟩⟩
    · have : (64 : Nat) ≤ maxLen := by decide
      omega
    · simp [madeCells]
    · rw [toList_madeCells_one]; simp [encs]
  · intro k hk
    simpa [Value.ownBlock] using hk.symm
/-- What the walk of Split knows of a world behind the makes. -/
structure SplitSt (w0 W : World) (A1 : Option Addr) (c1 n : Nat) (T size : Int) (bp bo : Nat) (P O : List Int) : Prop where
  below : Below w0.heap.size w0 W
  e0 : W.cell? ⟨w0.heap.size, 0, none⟩ = some (.slice A1 n c1)
  e1 : W.cell? ⟨w0.heap.size + 1, 0, none⟩ = some (.int .i64 T)
  e2 : W.cell? ⟨w0.heap.size + 1 + 1, 0, none⟩ = some (.int .i64 size)
  rp : IRow W w0.heap.size n bp P
  ro : IRow W w0.heap.size n bo O
  bp2 : w0.heap.size + 1 + 1 < bp
  bo2 : w0.heap.size + 1 + 1 < bo
  ne : bp ≠ bo
section
variable {w0 W : World} {A1 : Option Addr} {c1 n : Nat} {T size : Int} {bp bo : Nat} {P O : List Int}
theorem SplitSt.drewN (h : SplitSt w0 W A1 c1 n T size bp bo P O) (m : Nat) : SplitSt w0 (W.drewN m) A1 c1 n T size bp bo P O :=
  ⟨pw_below_drewN h.below m, h.e0, h.e1, h.e2, Kd.R_drewN h.rp m, Kd.R_drewN h.ro m, h.bp2, h.bo2, h.ne⟩
theorem SplitSt.drew (h : SplitSt w0 W A1 c1 n T size bp bo P O) : SplitSt w0 W.drew A1 c1 n T size bp bo P O := h.drewN 1
theorem cell_farM (W : World) (p q : Addr) (v : Value) (h : q.block ≠ p.block) : (W.setCell p v).cell? q = W.cell? q := by
  have := Below.heap_setCell W p v q.block h
  unfold World.cell?
  rw [this]
theorem SplitSt.setP (h : SplitSt w0 W A1 c1 n T size bp bo P O) (i : Nat) (x : Int) : SplitSt w0 (W.setCell ⟨bp, i, none⟩ (.int .i64 x)) A1 c1 n T size bp bo (P.set i x) O := by
  have hn : n = P.length := (Kd.R_reads' h.rp).1
  have hb := h.bp2
  refine ⟨Below.setCell h.below (by show _ ≤ bp; omega) _, ?_, ?_, ?_, ?_, ?_, h.bp2, h.bo2, h.ne⟩
  · rw [cell_farM _ _ _ _ (by show _ ≠ bp; simp only; omega)]; exact h.e0
  · rw [cell_farM _ _ _ _ (by show _ ≠ bp; simp only; omega)]; exact h.e1
  · rw [cell_farM _ _ _ _ (by show _ ≠ bp; simp only; omega)]; exact h.e2
  · have := Kd.R_putn (h1 := fun _ => rfl) h.rp (i : Int) x
    rw [Int.toNat_natCast] at this
    exact this
  · exact Kd.R_far h.ro (p := ⟨bp, i, none⟩) (fun k hk => by show k ≠ bp; have := h.ne; omega) _
theorem SplitSt.setO (h : SplitSt w0 W A1 c1 n T size bp bo P O) (i : Nat) (x : Int) : SplitSt w0 (W.setCell ⟨bo, i, none⟩ (.int .i64 x)) A1 c1 n T size bp bo P (O.set i x) := by
  have hb := h.bo2
  refine ⟨Below.setCell h.below (by show _ ≤ bo; omega) _, ?_, ?_, ?_, ?_, ?_, h.bp2, h.bo2, h.ne⟩
  · rw [cell_farM _ _ _ _ (by show _ ≠ bo; simp only; omega)]; exact h.e0
  · rw [cell_farM _ _ _ _ (by show _ ≠ bo; simp only; omega)]; exact h.e1
  · rw [cell_farM _ _ _ _ (by show _ ≠ bo; simp only; omega)]; exact h.e2
  · exact Kd.R_far h.rp (p := ⟨bo, i, none⟩) (fun k hk => by show k ≠ bo; have := h.ne; omega) _
  · have := Kd.R_putn (h1 := fun _ => rfl) h.ro (i : Int) x
    rw [Int.toNat_natCast] at this
    exact this
theorem SplitSt.cellP (h : SplitSt w0 W A1 c1 n T size bp bo P O) (i : Nat) (hi : i < n) : W.cell? ⟨bp, i, none⟩ = some (.int .i64 (rd P i)) ∧ W.frozen? ⟨bp, i, none⟩ = false := by
  have := Kd.R_celln (h1 := fun _ => rfl) (0 : Int) h.rp (i : Int) (by omega) (by omega)
  rw [Int.toNat_natCast] at this
  exact this
theorem SplitSt.cellO (h : SplitSt w0 W A1 c1 n T size bp bo P O) (i : Nat) (hi : i < n) : W.cell? ⟨bo, i, none⟩ = some (.int .i64 (rd O i)) ∧ W.frozen? ⟨bo, i, none⟩ = false := by
  have := Kd.R_celln (h1 := fun _ => rfl) (0 : Int) h.ro (i : Int) (by omega) (by omega)
  rw [Int.toNat_natCast] at this
  exact this
end

theorem push_far {α : Type} (a : Array α) (x : α) (k : Nat) (h : k < a.size) : (a.push x)[k]? = a[k]? := by
  rw [Array.getElem?_push, if_neg (by omega)]
theorem push_at {α : Type} (a : Array α) (x : α) (k : Nat) (h : k = a.size) : (a.push x)[k]? = some x := by
  rw [Array.getElem?_push, if_pos h]
/-- The world behind the makes. -/
def splitW (w : World) (A1 : Option Addr) (c1 n : Nat) (T size : Int) (nd : Nat) : World :=
  ((((((w.alloc (.cells #[.slice A1 n c1] 34)).alloc (.cells #[.int .i64 T] 3)).drewN nd).alloc (.cells #[.int .i64 size] 3)).alloc (.cells (madeCells #[.int .i64 0] n) 3)).alloc (.cells (madeCells #[.int .i64 0] n) 3)).drew
theorem split_start (w : World) (A1 : Option Addr) (c1 n : Nat) (T size : Int) (nd bp bo : Nat) (hn : n ≤ 64)
    (h : (bp = w.heap.size + 1 + 1 + 1 ∧ bo = w.heap.size + 1 + 1 + 1 + 1) ∨ (bo = w.heap.size + 1 + 1 + 1 ∧ bp = w.heap.size + 1 + 1 + 1 + 1)) :
    SplitSt w (splitW w A1 c1 n T size nd) A1 c1 n T size bp bo (List.replicate n 0) (List.replicate n 0) := by
  have hh : (splitW w A1 c1 n T size nd).heap = ((((w.heap.push (.cells #[.slice A1 n c1] 34)).push (.cells #[.int .i64 T] 3)).push (.cells #[.int .i64 size] 3)).push (.cells (madeCells #[.int .i64 0] n) 3)).push (.cells (madeCells #[.int .i64 0] n) 3) := rfl
  have g0 : (splitW w A1 c1 n T size nd).heap[w.heap.size]? = some (.cells #[.slice A1 n c1] 34) := by rw [hh, push_far _ _ _ (by simp only [Array.size_push]; omega), push_far _ _ _ (by simp only [Array.size_push]; omega), push_far _ _ _ (by simp only [Array.size_push]; omega), push_far _ _ _ (by simp only [Array.size_push]; omega), push_at _ _ _ (by simp only [Array.size_push])]
  have g1 : (splitW w A1 c1 n T size nd).heap[w.heap.size + 1]? = some (.cells #[.int .i64 T] 3) := by rw [hh, push_far _ _ _ (by simp only [Array.size_push]; omega), push_far _ _ _ (by simp only [Array.size_push]; omega), push_far _ _ _ (by simp only [Array.size_push]; omega), push_at _ _ _ (by simp only [Array.size_push])]
  have g2 : (splitW w A1 c1 n T size nd).heap[w.heap.size + 1 + 1]? = some (.cells #[.int .i64 size] 3) := by rw [hh, push_far _ _ _ (by simp only [Array.size_push]; omega), push_far _ _ _ (by simp only [Array.size_push]; omega), push_at _ _ _ (by simp only [Array.size_push])]
  have g3 : (splitW w A1 c1 n T size nd).heap[w.heap.size + 1 + 1 + 1]? = some (.cells (madeCells #[.int .i64 0] n) 3) := by rw [hh, push_far _ _ _ (by simp only [Array.size_push]; omega), push_at _ _ _ (by simp only [Array.size_push])]
  have g4 : (splitW w A1 c1 n T size nd).heap[w.heap.size + 1 + 1 + 1 + 1]? = some (.cells (madeCells #[.int .i64 0] n) 3) := by rw [hh, push_at _ _ _ (by simp only [Array.size_push])]
  refine ⟨?_, ?_, ?_, ?_, ?_, ?_, ?_, ?_, ?_⟩
  · exact below_drew (below_alloc (below_alloc (below_alloc (pw_below_drewN (below_alloc (below_alloc (Below.refl _ _) _) _) _) _) _) _)
  · unfold World.cell?; simp only [g0]; rfl
  · unfold World.cell?; simp only [g1]; rfl
  · unfold World.cell?; simp only [g2]; rfl
  · rcases h with h | h
    · refine irow_new _ _ _ _ hn (by omega) ?_; rw [h.1]; exact g3
    · refine irow_new _ _ _ _ hn (by omega) ?_; rw [h.2]; exact g4
  · rcases h with h | h
    · refine irow_new _ _ _ _ hn (by omega) ?_; rw [h.2]; exact g4
    · refine irow_new _ _ _ _ hn (by omega) ?_; rw [h.1]; exact g3
  · omega
  · omega
  · omega
section
open Go.Sort (putRow Holds putCells mapBlock swp)
def encF (n : Nat) (x : Fin n) : Value := .int .i64 (x.val : Int)
theorem encF_one (n : Nat) : OneCell (encF n) := fun _ => rfl
/-- What the comparison of Split says. -/
def cfF (size T : Int) (l : List Int) (n : Nat) (x y : Fin n) : Int := cmp3 (remOf size T l y.val) (remOf size T l x.val)
theorem heap_putRow_far {α : Type} [Inhabited α] (enc : α → Value) (w : World) (blk off : Nat) (d : Array α) (k : Nat) (h : k ≠ blk) : (putRow enc w blk off d).heap[k]? = w.heap[k]? := by
  simp only [putRow, mapBlock, Array.getElem?_modify]
  rw [if_neg (Ne.symm h)]
theorem cell_eq {w w' : World} (a : Addr) (h : w'.heap[a.block]? = w.heap[a.block]?) : w'.cell? a = w.cell? a := by
  unfold World.cell?
  rw [h]
section
variable {w0 W : World} {ad : Addr} {c1 n : Nat} {T size : Int} {bp bo : Nat} {P O : List Int}
theorem split_reads (sz : Nat) (hS : SplitSt w0 W (some ad) c1 n T size bp bo P O) (l : List Int) (hl : n = l.length) (hr : Kd.C (Kd.int .i64) w0 (some ad) l.length l) (hn : n ≤ 64) (hn0 : Inhabited (Fin n))
    (s0 : 0 ≤ size) (s1 : size ≤ 1000000000) (t0 : 1 ≤ T) (hb : ∀ x ∈ l, 0 ≤ x ∧ x ≤ 1000000) :
    CmpReads Tryd.prog 31 #[.pointer (some ⟨w0.heap.size + 1 + 1, 0, none⟩), .pointer (some ⟨w0.heap.size, 0, none⟩), .pointer (some ⟨w0.heap.size + 1, 0, none⟩)] (encF n) (cfF size T l n) bo 0 sz W := by
  intro m os dk hdk x y
  have hbo := hS.bo2
  have hlt : bo < W.heap.size := Kd.R_lt hS.ro bo (by simp [Value.ownBlock])
  have old : ∀ k, k ≠ bo → k < W.heap.size → (sortWorld (encF n) W bo 0 m dk os).heap[k]? = W.heap[k]? := by
    intro k hk hkl
    unfold sortWorld
    rw [Go.Sort.heap_grow_old _ _ (by show k < (putRow (encF n) (Go.Sort.ahead W m) bo 0 dk).heap.size; simp; exact hkl), heap_putRow_far _ _ _ _ _ _ hk]
    rfl
  have hsz : w0.heap.size ≤ W.heap.size := hS.below.size
  have wcell : ∀ z : Fin n, (sortWorld (encF n) W bo 0 m dk os).cell? (ad.add z.val) = some (.int .i64 (l.getD z.val 0)) := by
    intro z
    obtain ⟨ad2, h2, hc⟩ := Kd.at_int hr (z.val : Int) (by omega) (by have := z.isLt; omega)
    obtain rfl := Option.some.inj h2
    rw [Int.toNat_natCast] at hc
    have hlb := World.block_lt_of_cell? w0 _ hc
    rw [cell_eq _ (old _ (by omega) (by omega)), hS.below.cell hlb, hc]
    have : z.val < l.length := by have := z.isLt; omega
    simp [rd, this]
  have hx := hb (l.getD x.val 0) (by have : x.val < l.length := (by have := x.isLt; omega); simp [this])
  have hy := hb (l.getD y.val 0) (by have : y.val < l.length := (by have := y.isLt; omega); simp [this])
  exact split_cmp (w0.heap.size + 1 + 1) w0.heap.size (w0.heap.size + 1) size T ad n c1 l x.val y.val _
    ((cell_eq _ (old _ (by simp only; omega) (by simp only; omega))).trans hS.e2) ((cell_eq _ (old _ (by simp only; omega) (by simp only; omega))).trans hS.e0) ((cell_eq _ (old _ (by simp only; omega) (by simp only; omega))).trans hS.e1)
    (wcell x) (wcell y) x.isLt y.isLt hn s0 s1 t0 hx.1 hx.2 hy.1 hy.2
end

section
variable {w0 W : World} {A1 : Option Addr} {c1 n : Nat} {T size : Int} {bp bo : Nat} {P O : List Int}
theorem SplitSt.rowO [Inhabited (Fin n)] (h : SplitSt w0 W A1 c1 n T size bp bo P O) (d : Array (Fin n)) (hd : d.size = n) : SplitSt w0 (putRow (encF n) W bo 0 d) A1 c1 n T size bp bo P (d.toList.map (fun x => (x.val : Int))) := by
  have hb := h.bo2
  have hlt : bo < W.heap.size := Kd.R_lt h.ro bo (by simp [Value.ownBlock])
  have far := fun k hk => heap_putRow_far (encF n) W bo 0 d k hk
  refine ⟨?_, ?_, ?_, ?_, ?_, ?_, h.bp2, h.bo2, h.ne⟩
  · refine h.below.trans ⟨rfl, rfl, rfl, Nat.le_of_eq (by simp), fun k hk => far k (by omega)⟩
  · rw [cell_eq _ (far _ (by simp only; omega))]; exact h.e0
  · rw [cell_eq _ (far _ (by simp only; omega))]; exact h.e1
  · rw [cell_eq _ (far _ (by simp only; omega))]; exact h.e2
  · refine Kd.R_move h.rp (fun k hk => far k ?_)
    have := h.ne
    omega
  · obtain ⟨inner, hl, ho⟩ := Kd.R_own h.ro
    rcases ho with ⟨he, _⟩ | ⟨g, cap, cur, he, hg, hh, hc1, hc2, hc3, _⟩
    · cases he
    · injection he with e1 e2 e3
      injection e1 with e1
      injection e1 with e1
      subst e1
      have hcs : cur.size = n := by rw [hc3, ← e3]; exact Nat.mul_one n
      refine Kd.R_of_own ?_ (fun k hk => by simpa [Value.ownBlock] using hk.symm)
      have hmap : putCells (encF n) 0 d cur = (d.map (encF n)) := by
        apply Array.ext_getElem?
        intro k
        simp only [putCells, Array.getElem?_mapIdx, Array.getElem?_map]
        by_cases hk : k < n
        · have h1 : cur[k]? = some cur[k] := Array.getElem?_eq_getElem (by omega)
          have h2 : d[k]? = some d[k] := Array.getElem?_eq_getElem (by omega)
          rw [h1, h2]
          simp only [Option.map_some]
          rw [if_pos (by omega), Nat.sub_zero, getElem!_pos d k (by omega)]
        · rw [Array.getElem?_eq_none (by omega), Array.getElem?_eq_none (by omega)]
          rfl
      refine ⟨by simp [encs, hd], .inr ⟨bo, n, d.map (encF n), by simp [hd], by omega, ?_, by simp [hd], ?_, by simp [hd], ?_⟩⟩
      · rw [← hmap]
        simp only [putRow, mapBlock, Array.getElem?_modify, if_pos, hh]
        rfl
      · omega
      · rw [List.take_of_length_le (by simp [hd])]
        simp [encs, encF, List.map_map, Function.comp_def]
theorem SplitSt.holds [Inhabited (Fin n)] (h : SplitSt w0 W A1 c1 n T size bp bo P O) (d : Array (Fin n)) (hd : d.size = n) (hO : O = d.toList.map (fun x => (x.val : Int))) : Holds (encF n) W bo 0 d := by
  intro j hj
  have hc := h.cellO j (by omega)
  rw [Nat.zero_add]
  refine ⟨?_, hc.2⟩
  rw [hc.1, hO]
  have e : rd (d.toList.map (fun x => (x.val : Int))) j = (d[j].val : Int) := by unfold rd; simp [hj]
  rw [e, getElem!_pos d j hj]
  rfl
end
/-- The order in which Split gives the cents that are left. -/
def idF (n : Nat) : Array (Fin n) := Array.ofFn id
def ordA (size T : Int) (l : List Int) (hn : 0 < l.length) : Array (Fin l.length) :=
  haveI : Inhabited (Fin l.length) := ⟨⟨0, hn⟩⟩
  Sort.insertionSort (ltOf (cfF size T l l.length)) (idF l.length) 0 l.length
theorem size_insInner {α : Type} [Inhabited α] (lt : α → α → Bool) (a : Nat) : ∀ (j : Nat) (d : Array α), (Sort.insInner lt a j d).size = d.size
  | 0, d => rfl
  | j + 1, d => by
    rw [Sort.insInner]
    split
    · rw [size_insInner lt a j]
      simp [Sort.swp]
    · rfl
theorem size_insOuter {α : Type} [Inhabited α] (lt : α → α → Bool) (a b : Nat) : ∀ (k i : Nat) (d : Array α), b - i ≤ k → (Sort.insOuter lt a b i d).size = d.size
  | 0, i, d, h => by
    rw [Sort.insOuter, if_neg (by omega)]
  | k + 1, i, d, h => by
    rw [Sort.insOuter]
    split
    · rw [size_insOuter lt a b k _ _ (by omega), size_insInner]
    · rfl
theorem ordA_size (size T : Int) (l : List Int) (hn : 0 < l.length) : (ordA size T l hn).size = l.length := by
  letI : Inhabited (Fin l.length) := ⟨⟨0, hn⟩⟩
  unfold ordA Sort.insertionSort
  rw [size_insOuter _ _ _ _ _ _ (Nat.le_refl _)]
  simp [idF]
def ordL (size T : Int) (l : List Int) (hn : 0 < l.length) : List Int := (ordA size T l hn).toList.map (fun x => (x.val : Int))
theorem fillO_id (n : Nat) : fillO n n = (idF n).toList.map (fun x => (x.val : Int)) := by
  unfold fillO idF
  apply List.ext_getElem
  · simp
  · intro i h1 h2
    simp
end

end Go.Proofs.YtcbhaoaameiacaaDoor.X
