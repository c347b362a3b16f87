-- Written by a program of mine (wip/tools/xprint.py) over the kit's print.py: printed functions and hand-proved ones side by side.
import Derived.Test.YtcbhaoaameiacaaDoorXx0
import Derived.Test.YtcbhaoaameiacaaDoorXx2
namespace Go.Proofs.YtcbhaoaameiacaaDoor.X
open Go.RowKit Go.Proofs.YtcbhaoaameiacaaDoorW.PrintWords Go.Proofs.YtcbhaoaameiacaaDoorW.PrintLast Go.Proofs.YtcbhaoaameiacaaDoorW.PrintMore
attribute [local go_sem] max2_int min2_int max_two min_two max_three min_three max_four min_four   -- for this text's walks alone
set_option linter.unusedVariables false
set_option linter.unusedSimpArgs false

/-! ### money_Split: function 15 -/
-- by hand: cohousing/money.Split
theorem wrap_i64 (x : Int) (h1 : -9223372036854775808 ≤ x) (h2 : x ≤ 9223372036854775807) : IntKind.i64.wrap x = x := by rw [IntKind.wrap_i64]; omega
def cmp3 (x y : Int) : Int := if x < y then -1 else if x > y then 1 else 0
theorem cmp_int (x y : Int) (w : World) : Calls Tryd.prog 32 #[.int .i64 x, .int .i64 y] w fun e w' => e = .returned (.int .i64 (cmp3 x y)) ∧ w' = w := by
  unfold cmp3
  by_cases h1 : x < y
  · have h1b : decide (x < y) = true := decide_eq_true h1
    rw [if_pos h1]
    go_enter Tryd.func32, Tryd.ntmps32
    go_wp2
    go_ret
    exact ⟨rfl, rfl⟩
  · have h1b : decide (x < y) = false := decide_eq_false h1
    rw [if_neg h1]
    by_cases h2 : y < x
    · have h2b : decide (y < x) = true := decide_eq_true h2
      rw [if_pos h2]
      go_enter Tryd.func32, Tryd.ntmps32
      go_wp2
      go_ret
      exact ⟨rfl, rfl⟩
    · have h2b : decide (y < x) = false := decide_eq_false h2
      rw [if_neg h2]
      go_enter Tryd.func32, Tryd.ntmps32
      go_wp2
      go_ret
      exact ⟨rfl, rfl⟩
/-- The remainder of a part. -/
def remOf (size total : Int) (l : List Int) (i : Nat) : Int := (size * l.getD i 0) % total
theorem prod_b {a b m n : Int} (h0 : 0 ≤ a) (h1 : a ≤ m) (h2 : 0 ≤ b) (h3 : b ≤ n) : 0 ≤ a * b ∧ a * b ≤ m * n :=
  ⟨Int.mul_nonneg h0 h2, Int.le_trans (Int.mul_le_mul_of_nonneg_right h1 h2) (Int.mul_le_mul_of_nonneg_left h3 (by omega))⟩
set_option maxHeartbeats 1000000 in
theorem split_cmp (gs gw gt : Nat) (size total : Int) (ad : Addr) (n c : Nat) (l : List Int) (x y : Nat) (w : World)
    (hs : w.cell? ⟨gs, 0, none⟩ = some (.int .i64 size)) (hw : w.cell? ⟨gw, 0, none⟩ = some (.slice (some ad) n c)) (ht : w.cell? ⟨gt, 0, none⟩ = some (.int .i64 total))
    (hx : w.cell? (ad.add x) = some (.int .i64 (l.getD x 0))) (hy : w.cell? (ad.add y) = some (.int .i64 (l.getD y 0))) (hxn : x < n) (hyn : y < n) (hn : n ≤ 64)
    (s0 : 0 ≤ size) (s1 : size ≤ 1000000000) (t0 : 1 ≤ total) (lx0 : 0 ≤ l.getD x 0) (lx1 : l.getD x 0 ≤ 1000000) (ly0 : 0 ≤ l.getD y 0) (ly1 : l.getD y 0 ≤ 1000000) :
    Calls Tryd.prog 31 #[.int .i64 x, .int .i64 y, .pointer (some ⟨gs, 0, none⟩), .pointer (some ⟨gw, 0, none⟩), .pointer (some ⟨gt, 0, none⟩)] w fun e w' =>
      e = .returned (.int .i64 (cmp3 (remOf size total l y) (remOf size total l x))) ∧ ∃ q, w' = w.drewN q := by
  unfold remOf
  have bx := prod_b s0 s1 lx0 lx1
  have by_ := prod_b s0 s1 ly0 ly1
  generalize l.getD x 0 = lx at *
  generalize l.getD y 0 = ly at *
  have wx := wrap_i64 (size * lx) (by omega) (by omega)
  have wy := wrap_i64 (size * ly) (by omega) (by omega)
  have tne : ¬ total = 0 := by omega
  have hxz : (x : Int) < (n : Int) := by omega
  have hyz : (y : Int) < (n : Int) := by omega
  have hx0 : (0 : Int) ≤ (x : Int) := by omega
  have hy0 : (0 : Int) ≤ (y : Int) := by omega
  obtain ⟨px, hpx⟩ : ∃ z, size * lx = z := ⟨_, rfl⟩
  obtain ⟨py, hpy⟩ : ∃ z, size * ly = z := ⟨_, rfl⟩
  have HX := Lib.hid hpx
  have HY := Lib.hid hpy
  rw [hpx] at bx wx ⊢
  rw [hpy] at by_ wy ⊢
  have mx : IntKind.i64.wrap (size * lx) = px := by rw [hpx]; exact wx
  have my : IntKind.i64.wrap (size * ly) = py := by rw [hpy]; exact wy
  clear hpx hpy
  go_enter Tryd.func31, Tryd.ntmps31
  go_wp2_with fail
  go_quiet ((go_at_call 32; exact Calls.quiet_of_same (cmp_int _ _ _)))
  go_wp2
  go_ret
  exact ⟨rfl, _, rfl⟩
/-- The sum of the weights, if each is one. -/
def splitTotal : List Int → Int → Option Int
  | [], s => some s
  | x :: l, s => if x < 0 ∨ 1000000 < x then none else splitTotal l (wrap64 (s + x))
theorem splitTotal_drop (l : List Int) (i : Nat) (s : Int) (hi : i < l.length) : splitTotal (l.drop i) s = if rd l i < 0 ∨ 1000000 < rd l i then none else splitTotal (l.drop (i + 1)) (wrap64 (s + rd l i)) := by
  rw [List.drop_eq_getElem_cons hi, splitTotal]
  have e : rd l i = l[i] := by unfold rd; simp [hi]
  rw [e]
set_option maxRecDepth 100000 in
set_option maxHeartbeats 4000000 in
theorem split_a (c : Int) (A1 : Option Addr) (c1 : Nat) (l1 : List Int) (w : World) (hr1 : Kd.C (Kd.int .i64) w A1 l1.length l1) (hc1 : l1.length ≤ c1)
    (ht : splitTotal l1 0 = none) :
    Calls Tryd.prog 15 #[.int .i64 c, .slice A1 l1.length c1] w fun e w' => e = .returned (.tuple #[.slice none 0 0, .int .i64 1]) ∧ Below w.heap.size w w' := by
  have HR := Aside0.mk hr1
  have HT := Aside0.mk ht
  have hlen := hr1.2.1
  clear hr1 ht
  go_enter Tryd.func15, Tryd.ntmps15
  go_wp2_with fail
  go_loopw [20] (fun v wr => ∃ (i : Nat) (s : Int), v = .int .i64 i ∧ i ≤ l1.length ∧ wr = (w.alloc (.cells #[.slice A1 l1.length c1] 34)).alloc (.cells #[.int .i64 s] 3) ∧ Aside0 (splitTotal (l1.drop i) s = none)) (fun v _ => l1.length - (intOf v).toNat)
  case atStart => exact ⟨0, 0, rfl, by omega, rfl, ⟨by simpa using HT.out⟩⟩
  case round =>
    obtain ⟨i, s, rfl, hi, rfl, HS⟩ := hrel
    by_cases hlt : i < l1.length
    · have hd := HS.out
      rw [splitTotal_drop l1 i s hlt] at hd
      have hr2 : Kd.C (Kd.int .i64) ((w.alloc (.cells #[.slice A1 l1.length c1] 34)).alloc (.cells #[.int .i64 s] 3)) A1 l1.length l1 := Kd.C_below HR.out (below_alloc (below_alloc (Below.refl _ _) _) _)
      obtain ⟨ad, rfl, hcell⟩ := Kd.at_int hr2 (i : Int) (by omega) (by omega)
      rw [Int.toNat_natCast] at hcell
      have hltz : (i : Int) < (l1.length : Int) := by omega
      by_cases h0 : rd l1 i < 0
      · have h0b : decide (rd l1 i < 0) = true := decide_eq_true h0
        go_wp2
        go_ret2
        exact ⟨rfl, below_alloc (below_alloc (Below.refl _ _) _) _⟩
      · have h0b : decide (rd l1 i < 0) = false := decide_eq_false h0
        by_cases h1 : 1000000 < rd l1 i
        · have h1b : decide (1000000 < rd l1 i) = true := decide_eq_true h1
          go_wp2
          go_ret2
          exact ⟨rfl, below_alloc (below_alloc (Below.refl _ _) _) _⟩
        · have h1b : decide (1000000 < rd l1 i) = false := decide_eq_false h1
          rw [if_neg (by omega)] at hd
          have HD := Aside0.mk hd
          clear hd HS
          go_wp2
          go_roundw
          case rel => exact ⟨i + 1, wrap64 (s + rd l1 i), by go_num, by omega, rfl, HD⟩
          case measure => simp [intOf]; omega
    · have e : i = l1.length := by omega
      subst e
      have hd := HS.out
      rw [List.drop_length] at hd
      cases hd
set_option maxRecDepth 100000 in
set_option maxHeartbeats 8000000 in
theorem split_b (c : Int) (A1 : Option Addr) (c1 : Nat) (l1 : List Int) (T : Int) (w : World) (hr1 : Kd.C (Kd.int .i64) w A1 l1.length l1) (hc1 : l1.length ≤ c1)
    (ht : splitTotal l1 0 = some T) (hb : ¬ (-1000000000 ≤ c ∧ c ≤ 1000000000) ∨ 64 < l1.length ∨ T = 0) :
    Calls Tryd.prog 15 #[.int .i64 c, .slice A1 l1.length c1] w fun e w' => e = .returned (.tuple #[.slice none 0 0, .int .i64 1]) ∧ Below w.heap.size w w' := by
  have HR := Aside0.mk hr1
  have HT := Aside0.mk ht
  have hlen := hr1.2.1
  clear hr1 ht
  have HV : Aside0 (money_amount_valid.f c = some (decide (-1000000000 ≤ c ∧ c ≤ 1000000000))) := ⟨by
    unfold money_amount_valid.f
    by_cases h1 : -1000000000 ≤ c
    · rw [if_pos h1]; congr 1; rw [decide_eq_decide]; omega
    · rw [if_neg h1, decide_eq_false (by omega)]⟩
  go_enter Tryd.func15, Tryd.ntmps15
  go_wp2_with fail
  go_loopw [20] (fun v wr => ∃ (i : Nat) (s : Int), v = .int .i64 i ∧ i ≤ l1.length ∧ wr = (w.alloc (.cells #[.slice A1 l1.length c1] 34)).alloc (.cells #[.int .i64 s] 3) ∧ Aside0 (splitTotal (l1.drop i) s = some T)) (fun v _ => l1.length - (intOf v).toNat)
  case atStart => exact ⟨0, 0, rfl, by omega, rfl, ⟨by simpa using HT.out⟩⟩
  case round =>
    obtain ⟨i, s, rfl, hi, rfl, HS⟩ := hrel
    by_cases hlt : i < l1.length
    · have hd := HS.out
      rw [splitTotal_drop l1 i s hlt] at hd
      have hr2 : Kd.C (Kd.int .i64) ((w.alloc (.cells #[.slice A1 l1.length c1] 34)).alloc (.cells #[.int .i64 s] 3)) A1 l1.length l1 := Kd.C_below HR.out (below_alloc (below_alloc (Below.refl _ _) _) _)
      obtain ⟨ad, rfl, hcell⟩ := Kd.at_int hr2 (i : Int) (by omega) (by omega)
      rw [Int.toNat_natCast] at hcell
      have hltz : (i : Int) < (l1.length : Int) := by omega
      by_cases h0 : rd l1 i < 0 ∨ 1000000 < rd l1 i
      · rw [if_pos h0] at hd
        cases hd
      · rw [if_neg h0] at hd
        have h0b : decide (rd l1 i < 0) = false := decide_eq_false (by omega)
        have h1b : decide (1000000 < rd l1 i) = false := decide_eq_false (by omega)
        have HD := Aside0.mk hd
        clear hd HS h0
        go_wp2
        go_roundw
        case rel => exact ⟨i + 1, wrap64 (s + rd l1 i), by go_num, by omega, rfl, HD⟩
        case measure => simp [intOf]; omega
    · have e : i = l1.length := by omega
      subst e
      have hd := HS.out
      rw [List.drop_length] at hd
      obtain rfl := Option.some.inj hd
      clear hd HS hlt
      by_cases hv : (-1000000000 ≤ c ∧ c ≤ 1000000000)
      · rw [decide_eq_true hv] at HV
        by_cases hl : 64 < l1.length
        · have hlb : decide (64 < l1.length) = true := decide_eq_true hl
          have hlz : decide ((64 : Int) < (l1.length : Int)) = true := decide_eq_true (by omega)
          clear hb
          go_wp2_with fail
          refine (money_amount_valid.calls c _ _ HV.out).mono ?_
          rintro e w' ⟨rfl, ⟨nd, rfl⟩⟩
          go_wp2
          go_ret2
          exact ⟨rfl, pw_below_drewN (below_alloc (below_alloc (Below.refl _ _) _) _) _⟩
        · have hz : s = 0 := by omega
          subst hz
          have hlb : decide (64 < l1.length) = false := decide_eq_false hl
          have hlz : decide ((64 : Int) < (l1.length : Int)) = false := decide_eq_false (by omega)
          clear hb
          go_wp2_with fail
          refine (money_amount_valid.calls c _ _ HV.out).mono ?_
          rintro e w' ⟨rfl, ⟨nd, rfl⟩⟩
          go_wp2
          go_ret2
          exact ⟨rfl, pw_below_drewN (below_alloc (below_alloc (Below.refl _ _) _) _) _⟩
      · rw [decide_eq_false hv] at HV
        clear hb
        go_wp2_with fail
        refine (money_amount_valid.calls c _ _ HV.out).mono ?_
        rintro e w' ⟨rfl, ⟨nd, rfl⟩⟩
        go_wp2
        go_ret2
        exact ⟨rfl, pw_below_drewN (below_alloc (below_alloc (Below.refl _ _) _) _) _⟩
theorem splitTotal_sum : ∀ (l : List Int) (s T : Int), splitTotal l s = some T → 0 ≤ s → s + 1000000 * (l.length : Int) ≤ 4611686018427387904 → T = s + l.sum ∧ ∀ x ∈ l, 0 ≤ x ∧ x ≤ 1000000
  | [], s, T, h, h0, hb => by
    simp only [splitTotal, Option.some.injEq] at h
    subst h
    exact ⟨by simp, by simp⟩
  | x :: l, s, T, h, h0, hb => by
    rw [splitTotal] at h
    split at h
    · cases h
    · rename_i hx
      rw [List.length_cons, Int.natCast_succ] at hb
      have hl : (0 : Int) ≤ (l.length : Int) := Int.natCast_nonneg _
      have hw : wrap64 (s + x) = s + x := by unfold wrap64; omega
      rw [hw] at h
      obtain ⟨e, hm⟩ := splitTotal_sum l (s + x) T h (by omega) (by omega)
      refine ⟨by rw [e, List.sum_cons]; omega, ?_⟩
      intro y hy
      rcases List.mem_cons.mp hy with rfl | hy
      · omega
      · exact hm y hy
/-- The parts rounded down, and the remainders. -/
def qs (size T : Int) (l : List Int) : List Int := l.map (fun x => size * x / T)
def rs (size T : Int) (l : List Int) : List Int := l.map (fun x => size * x % T)
theorem qs_sum (size T : Int) : ∀ l : List Int, T * (qs size T l).sum + (rs size T l).sum = size * l.sum
  | [] => by simp [qs, rs]
  | x :: l => by
    have h := qs_sum size T l
    have e := Int.mul_ediv_add_emod (size * x) T
    simp only [qs, rs, List.map_cons, List.sum_cons, Int.mul_add] at h ⊢
    omega
theorem rs_bd (size T : Int) (hT : 1 ≤ T) : ∀ l : List Int, 0 ≤ (rs size T l).sum ∧ (rs size T l).sum ≤ (l.length : Int) * (T - 1)
  | [] => by simp [rs]
  | x :: l => by
    have h := rs_bd size T hT l
    have e0 := Int.emod_nonneg (size * x) (show T ≠ 0 by omega)
    have e1 := Int.emod_lt_of_pos (size * x) (show 0 < T by omega)
    simp only [rs, List.map_cons, List.sum_cons, List.length_cons, Int.natCast_succ, Int.add_mul, Int.one_mul] at h ⊢
    omega
theorem qs_nonneg (size T : Int) (hs : 0 ≤ size) (hT : 1 ≤ T) : ∀ l : List Int, (∀ x ∈ l, 0 ≤ x ∧ x ≤ 1000000) → 0 ≤ (qs size T l).sum
  | [], _ => by simp [qs]
  | x :: l, h => by
    have hi := qs_nonneg size T hs hT l (fun y hy => h y (List.mem_cons_of_mem _ hy))
    have hx := h x (List.mem_cons_self)
    have h2 : 0 ≤ size * x / T := Int.ediv_nonneg (Int.mul_nonneg hs hx.1) (by omega)
    simp only [qs, List.map_cons, List.sum_cons] at hi ⊢
    omega
theorem sum_nonneg_le : ∀ (l : List Int) (i : Nat), (∀ x ∈ l, 0 ≤ x ∧ x ≤ 1000000) → 0 ≤ l.sum ∧ (l.take i).sum ≤ l.sum
  | [], i, _ => by simp
  | x :: l, i, h => by
    have hx := h x (List.mem_cons_self)
    have hh : ∀ y ∈ l, 0 ≤ y ∧ y ≤ 1000000 := fun y hy => h y (List.mem_cons_of_mem _ hy)
    cases i with
    | zero => have := sum_nonneg_le l 0 hh; simp only [List.take_zero, List.sum_nil, List.sum_cons]; omega
    | succ i => have := sum_nonneg_le l i hh; simp only [List.take_succ_cons, List.sum_cons]; omega
theorem rd_mem (l : List Int) (i : Nat) (hi : i < l.length) : rd l i ∈ l := by
  have e : rd l i = l[i] := by unfold rd; simp [hi]
  rw [e]
  exact List.getElem_mem hi
theorem quo_bd (p s : Int) (hp : 0 ≤ p) (hs : 1 ≤ s) : Int.tdiv p s = p / s ∧ 0 ≤ p / s ∧ p / s ≤ p := by
  refine ⟨Int.tdiv_eq_ediv_of_nonneg hp, Int.ediv_nonneg hp (by omega), Int.ediv_le_self s hp⟩
/-- What is left behind the first i parts. -/
def leftAt (size T : Int) (l : List Int) (i : Nat) : Int := size - (qs size T (l.take i)).sum
theorem leftAt_bd (size T : Int) (l : List Int) (i : Nat) (hs : 0 ≤ size) (hT : 1 ≤ T) (hl : ∀ x ∈ l, 0 ≤ x ∧ x ≤ 1000000) (e : T = l.sum) : 0 ≤ leftAt size T l i ∧ leftAt size T l i ≤ size := by
  have h1 := qs_sum size T (l.take i)
  have h2 := rs_bd size T hT (l.take i)
  have h3 := qs_nonneg size T hs hT (l.take i) (fun x hx => hl x (List.mem_of_mem_take hx))
  have h4 := (sum_nonneg_le l i hl).2
  have h5 : size * (l.take i).sum ≤ size * T := Int.mul_le_mul_of_nonneg_left (by omega) hs
  have h6 : T * (qs size T (l.take i)).sum ≤ T * size := by rw [Int.mul_comm T size]; omega
  have h7 := Int.le_of_mul_le_mul_left h6 (by omega)
  unfold leftAt
  omega
theorem left_end (size T : Int) (l : List Int) (hT : 1 ≤ T) (e : T = l.sum) (hn : 0 < l.length) : leftAt size T l l.length < (l.length : Int) := by
  have h1 := qs_sum size T l
  have h2 := rs_bd size T hT l
  unfold leftAt
  rw [List.take_length]
  have h3 : T * (size - (qs size T l).sum) ≤ (l.length : Int) * (T - 1) := by rw [Int.mul_sub, Int.mul_comm T size]; rw [← e] at h1; omega
  have h4 : (l.length : Int) * (T - 1) < T * (l.length : Int) := by rw [Int.mul_sub, Int.mul_comm T]; omega
  exact Int.lt_of_mul_lt_mul_left (Int.lt_of_le_of_lt h3 h4) (by omega)
theorem take_succ_eq (l : List Int) (i : Nat) (hi : i < l.length) : l.take (i + 1) = l.take i ++ [l[i]] := by
  rw [List.take_add_one]
  simp [hi]
def fillP (size T : Int) (l : List Int) (i : Nat) : List Int := qs size T (l.take i) ++ List.replicate (l.length - i) 0
def fillO (n i : Nat) : List Int := (List.range i).map Int.ofNat ++ List.replicate (n - i) 0
theorem set_fill (a : List Int) (m : Nat) (x : Int) (hm : 0 < m) : (a ++ List.replicate m 0).set a.length x = (a ++ [x]) ++ List.replicate (m - 1) 0 := by
  obtain ⟨k, rfl⟩ : ∃ k, m = k + 1 := ⟨m - 1, by omega⟩
  simp [List.replicate_succ]
theorem fillP_set (size T : Int) (l : List Int) (i : Nat) (hi : i < l.length) : (fillP size T l i).set i (size * rd l i / T) = fillP size T l (i + 1) := by
  have h := set_fill (qs size T (l.take i)) (l.length - i) (size * rd l i / T) (by omega)
  have hl : (qs size T (l.take i)).length = i := by simp [qs]; omega
  rw [hl] at h
  unfold fillP
  rw [h, show l.length - i - 1 = l.length - (i + 1) by omega]
  congr 1
  have e : rd l i = l[i] := by unfold rd; simp [hi]
  rw [e, take_succ_eq l i hi]
  simp only [qs, List.map_append, List.map_cons, List.map_nil]
theorem fillO_set (n i : Nat) (hi : i < n) : (fillO n i).set i (i : Int) = fillO n (i + 1) := by
  have h := set_fill ((List.range i).map Int.ofNat) (n - i) (i : Int) (by omega)
  rw [show ((List.range i).map Int.ofNat).length = i by simp] at h
  unfold fillO
  rw [h, show n - i - 1 = n - (i + 1) by omega, List.range_succ]
  simp
theorem leftAt_succ (size T : Int) (l : List Int) (i : Nat) (hi : i < l.length) : leftAt size T l (i + 1) = leftAt size T l i - size * rd l i / T := by
  unfold leftAt
  have e : rd l i = l[i] := by unfold rd; simp [hi]
  rw [e, take_succ_eq l i hi]
  simp only [qs, List.map_append, List.map_cons, List.map_nil, List.sum_append, List.sum_cons, List.sum_nil]
  omega
theorem rd_fillP (size T : Int) (l : List Int) (i : Nat) (hi : i < l.length) : rd (fillP size T l (i + 1)) i = size * rd l i / T := by
  rw [← fillP_set size T l i hi]
  unfold rd
  have : i < (fillP size T l i).length := by simp [fillP, qs]; omega
  simp [this]
/-- A row of n integers of the call's own: block b. -/
abbrev IRow (W : World) (hs n b : Nat) (P : List Int) : Prop := (Kd.int .i64).R 3 W hs (fun k => k = b) (.slice (some ⟨b, 0, none⟩) n n) P
theorem irow_new (W : World) (hs n b : Nat) (hn : n ≤ 64) (hb : hs ≤ b) (h : W.heap[b]? = some (.cells (madeCells #[Value.int .i64 0] n) 3 (0, 0))) : IRow W hs n b (List.replicate n 0) := by
  refine Kd.R_of_own ?_ ?_
  · refine ⟨by simp [encs], .inr ⟨b, n, madeCells #[Value.int .i64 0] n, by simp, hb, h, Nat.le_of_eq (by simp), ?_, ?_, ?_⟩⟩
    · have : (64 : Nat) ≤ maxLen := by decide
      omega
    · simp [madeCells]
    · rw [toList_madeCells_one]; simp [encs]
  · intro k hk
    simpa [Value.ownBlock] using hk.symm
/-- What the walk of Split knows of a world behind the makes. -/
structure SplitSt (w0 W : World) (A1 : Option Addr) (c1 n : Nat) (T size : Int) (bp bo : Nat) (P O : List Int) : Prop where
  below : Below w0.heap.size w0 W
  e0 : W.cell? ⟨w0.heap.size, 0, none⟩ = some (.slice A1 n c1)
  e1 : W.cell? ⟨w0.heap.size + 1, 0, none⟩ = some (.int .i64 T)
  e2 : W.cell? ⟨w0.heap.size + 1 + 1, 0, none⟩ = some (.int .i64 size)
  rp : IRow W w0.heap.size n bp P
  ro : IRow W w0.heap.size n bo O
  bp2 : w0.heap.size + 1 + 1 < bp
  bo2 : w0.heap.size + 1 + 1 < bo
  ne : bp ≠ bo
section
variable {w0 W : World} {A1 : Option Addr} {c1 n : Nat} {T size : Int} {bp bo : Nat} {P O : List Int}
theorem SplitSt.drewN (h : SplitSt w0 W A1 c1 n T size bp bo P O) (m : Nat) : SplitSt w0 (W.drewN m) A1 c1 n T size bp bo P O :=
  ⟨pw_below_drewN h.below m, h.e0, h.e1, h.e2, Kd.R_drewN h.rp m, Kd.R_drewN h.ro m, h.bp2, h.bo2, h.ne⟩
theorem SplitSt.drew (h : SplitSt w0 W A1 c1 n T size bp bo P O) : SplitSt w0 W.drew A1 c1 n T size bp bo P O := h.drewN 1
theorem cell_far (W : World) (p q : Addr) (v : Value) (h : q.block ≠ p.block) : (W.setCell p v).cell? q = W.cell? q := by
  have := Below.heap_setCell W p v q.block h
  unfold World.cell?
  rw [this]
theorem SplitSt.setP (h : SplitSt w0 W A1 c1 n T size bp bo P O) (i : Nat) (x : Int) : SplitSt w0 (W.setCell ⟨bp, i, none⟩ (.int .i64 x)) A1 c1 n T size bp bo (P.set i x) O := by
  have hn : n = P.length := (Kd.R_reads' h.rp).1
  have hb := h.bp2
  refine ⟨Below.setCell h.below (by show _ ≤ bp; omega) _, ?_, ?_, ?_, ?_, ?_, h.bp2, h.bo2, h.ne⟩
  · rw [cell_far _ _ _ _ (by show _ ≠ bp; simp only; omega)]; exact h.e0
  · rw [cell_far _ _ _ _ (by show _ ≠ bp; simp only; omega)]; exact h.e1
  · rw [cell_far _ _ _ _ (by show _ ≠ bp; simp only; omega)]; exact h.e2
  · have := Kd.R_putn (h1 := fun _ => rfl) h.rp (i : Int) x
    rw [Int.toNat_natCast] at this
    exact this
  · exact Kd.R_far h.ro (p := ⟨bp, i, none⟩) (fun k hk => by show k ≠ bp; have := h.ne; omega) _
theorem SplitSt.setO (h : SplitSt w0 W A1 c1 n T size bp bo P O) (i : Nat) (x : Int) : SplitSt w0 (W.setCell ⟨bo, i, none⟩ (.int .i64 x)) A1 c1 n T size bp bo P (O.set i x) := by
  have hb := h.bo2
  refine ⟨Below.setCell h.below (by show _ ≤ bo; omega) _, ?_, ?_, ?_, ?_, ?_, h.bp2, h.bo2, h.ne⟩
  · rw [cell_far _ _ _ _ (by show _ ≠ bo; simp only; omega)]; exact h.e0
  · rw [cell_far _ _ _ _ (by show _ ≠ bo; simp only; omega)]; exact h.e1
  · rw [cell_far _ _ _ _ (by show _ ≠ bo; simp only; omega)]; exact h.e2
  · exact Kd.R_far h.rp (p := ⟨bo, i, none⟩) (fun k hk => by show k ≠ bo; have := h.ne; omega) _
  · have := Kd.R_putn (h1 := fun _ => rfl) h.ro (i : Int) x
    rw [Int.toNat_natCast] at this
    exact this
theorem SplitSt.cellP (h : SplitSt w0 W A1 c1 n T size bp bo P O) (i : Nat) (hi : i < n) : W.cell? ⟨bp, i, none⟩ = some (.int .i64 (rd P i)) ∧ W.frozen? ⟨bp, i, none⟩ = false := by
  have := Kd.R_celln (h1 := fun _ => rfl) (0 : Int) h.rp (i : Int) (by omega) (by omega)
  rw [Int.toNat_natCast] at this
  exact this
theorem SplitSt.cellO (h : SplitSt w0 W A1 c1 n T size bp bo P O) (i : Nat) (hi : i < n) : W.cell? ⟨bo, i, none⟩ = some (.int .i64 (rd O i)) ∧ W.frozen? ⟨bo, i, none⟩ = false := by
  have := Kd.R_celln (h1 := fun _ => rfl) (0 : Int) h.ro (i : Int) (by omega) (by omega)
  rw [Int.toNat_natCast] at this
  exact this
end

theorem push_far {α : Type} (a : Array α) (x : α) (k : Nat) (h : k < a.size) : (a.push x)[k]? = a[k]? := by
  rw [Array.getElem?_push, if_neg (by omega)]
theorem push_at {α : Type} (a : Array α) (x : α) (k : Nat) (h : k = a.size) : (a.push x)[k]? = some x := by
  rw [Array.getElem?_push, if_pos h]
/-- The world behind the makes. -/
def splitW (w : World) (A1 : Option Addr) (c1 n : Nat) (T size : Int) (nd : Nat) : World :=
  ((((((w.alloc (.cells #[.slice A1 n c1] 34)).alloc (.cells #[.int .i64 T] 3)).drewN nd).alloc (.cells #[.int .i64 size] 3)).alloc (.cells (madeCells #[.int .i64 0] n) 3)).alloc (.cells (madeCells #[.int .i64 0] n) 3)).drew
theorem split_start (w : World) (A1 : Option Addr) (c1 n : Nat) (T size : Int) (nd bp bo : Nat) (hn : n ≤ 64)
    (h : (bp = w.heap.size + 1 + 1 + 1 ∧ bo = w.heap.size + 1 + 1 + 1 + 1) ∨ (bo = w.heap.size + 1 + 1 + 1 ∧ bp = w.heap.size + 1 + 1 + 1 + 1)) :
    SplitSt w (splitW w A1 c1 n T size nd) A1 c1 n T size bp bo (List.replicate n 0) (List.replicate n 0) := by
  have hh : (splitW w A1 c1 n T size nd).heap = ((((w.heap.push (.cells #[.slice A1 n c1] 34)).push (.cells #[.int .i64 T] 3)).push (.cells #[.int .i64 size] 3)).push (.cells (madeCells #[.int .i64 0] n) 3)).push (.cells (madeCells #[.int .i64 0] n) 3) := rfl
  have g0 : (splitW w A1 c1 n T size nd).heap[w.heap.size]? = some (.cells #[.slice A1 n c1] 34) := by rw [hh, push_far _ _ _ (by simp only [Array.size_push]; omega), push_far _ _ _ (by simp only [Array.size_push]; omega), push_far _ _ _ (by simp only [Array.size_push]; omega), push_far _ _ _ (by simp only [Array.size_push]; omega), push_at _ _ _ (by simp only [Array.size_push])]
  have g1 : (splitW w A1 c1 n T size nd).heap[w.heap.size + 1]? = some (.cells #[.int .i64 T] 3) := by rw [hh, push_far _ _ _ (by simp only [Array.size_push]; omega), push_far _ _ _ (by simp only [Array.size_push]; omega), push_far _ _ _ (by simp only [Array.size_push]; omega), push_at _ _ _ (by simp only [Array.size_push])]
  have g2 : (splitW w A1 c1 n T size nd).heap[w.heap.size + 1 + 1]? = some (.cells #[.int .i64 size] 3) := by rw [hh, push_far _ _ _ (by simp only [Array.size_push]; omega), push_far _ _ _ (by simp only [Array.size_push]; omega), push_at _ _ _ (by simp only [Array.size_push])]
  have g3 : (splitW w A1 c1 n T size nd).heap[w.heap.size + 1 + 1 + 1]? = some (.cells (madeCells #[.int .i64 0] n) 3) := by rw [hh, push_far _ _ _ (by simp only [Array.size_push]; omega), push_at _ _ _ (by simp only [Array.size_push])]
  have g4 : (splitW w A1 c1 n T size nd).heap[w.heap.size + 1 + 1 + 1 + 1]? = some (.cells (madeCells #[.int .i64 0] n) 3) := by rw [hh, push_at _ _ _ (by simp only [Array.size_push])]
  refine ⟨?_, ?_, ?_, ?_, ?_, ?_, ?_, ?_, ?_⟩
  · exact below_drew (below_alloc (below_alloc (below_alloc (pw_below_drewN (below_alloc (below_alloc (Below.refl _ _) _) _) _) _) _) _)
  · unfold World.cell?; simp only [g0]; rfl
  · unfold World.cell?; simp only [g1]; rfl
  · unfold World.cell?; simp only [g2]; rfl
  · rcases h with h | h
    · refine irow_new _ _ _ _ hn (by omega) ?_; rw [h.1]; exact g3
    · refine irow_new _ _ _ _ hn (by omega) ?_; rw [h.2]; exact g4
  · rcases h with h | h
    · refine irow_new _ _ _ _ hn (by omega) ?_; rw [h.2]; exact g4
    · refine irow_new _ _ _ _ hn (by omega) ?_; rw [h.1]; exact g3
  · omega
  · omega
  · omega
section
open Go.Sort (putRow Holds putCells mapBlock)
set_option maxHeartbeats 1600000 in
set_option maxRecDepth 100000 in
theorem stable_small {α : Type} [Inhabited α] (enc : α → Value) (hO : OneCell enc) (cf : α → α → Int) (g : Nat) (cb : Array Value) (blk cap : Nat) (d : Array α) (w : World) (eg : ∀ args w, (callFunc g args).run Tryd.prog w = .ok (.enter g args) w)
    (hcmp : CmpReads Tryd.prog g cb enc cf blk 0 d.size w) (hH : Holds enc w blk 0 d) (h20 : d.size < 20) :
    Calls Tryd.prog 45 #[.slice (some ⟨blk, 0, none⟩) d.size cap, .int .i64 d.size, .func (.func g) #[] cb] w fun e w' =>
      e = .returned (.tuple #[]) ∧ ∃ n, w' = (putRow enc w blk 0 (Sort.insertionSort (ltOf cf) d 0 d.size)).drewN n := by
  have hc := Tryd.insertionSortCmpFunc_one enc hO cf g cb blk 0 cap 0 d.size d w eg hcmp hH (Nat.zero_le _) (Nat.le_refl _) (by omega)
  clear hcmp hH
  go_enter Tryd.func45, Tryd.ntmps45
  go_wp2
  refine wp_loop_rounds 1 ?_
  rw [rounds_succ]
  go_wp2_with (go_at_call 54; refine hc.mono ?_; rintro e w1 ⟨rfl, n, rfl⟩)
  refine wp_loop_rounds 1 ?_
  rw [rounds_succ]
  go_wp2
  all_goals first | (exfalso; omega) | (go_end0; exact ⟨rfl, n, rfl⟩)
theorem sort_small {α : Type} [Inhabited α] (enc : α → Value) (hO : OneCell enc) (cf : α → α → Int) (g : Nat) (cb : Array Value) (blk cap : Nat) (d : Array α) (w : World) (eg : ∀ args w, (callFunc g args).run Tryd.prog w = .ok (.enter g args) w)
    (hcmp : CmpReads Tryd.prog g cb enc cf blk 0 d.size w) (hH : Holds enc w blk 0 d) (h20 : d.size < 20) :
    Calls Tryd.prog 30 #[.slice (some ⟨blk, 0, none⟩) d.size cap, .func (.func g) #[] cb] w fun e w' =>
      e = .returned (.tuple #[]) ∧ ∃ n, w' = (putRow enc w blk 0 (Sort.insertionSort (ltOf cf) d 0 d.size)).drewN n := by
  have hc := stable_small enc hO cf g cb blk cap d w eg hcmp hH h20
  clear hcmp hH
  go_enter Tryd.func30, Tryd.ntmps30
  go_wp2_with (go_at_call 45; refine hc.mono ?_; rintro e w1 ⟨rfl, n, rfl⟩)
  go_end0
  exact ⟨rfl, n, rfl⟩

def encF (n : Nat) (x : Fin n) : Value := .int .i64 (x.val : Int)
theorem encF_one (n : Nat) : OneCell (encF n) := fun _ => rfl
/-- What the comparison of Split says. -/
def cfF (size T : Int) (l : List Int) (n : Nat) (x y : Fin n) : Int := cmp3 (remOf size T l y.val) (remOf size T l x.val)
theorem heap_putRow_far {α : Type} [Inhabited α] (enc : α → Value) (w : World) (blk off : Nat) (d : Array α) (k : Nat) (h : k ≠ blk) : (putRow enc w blk off d).heap[k]? = w.heap[k]? := by
  simp only [putRow, mapBlock, Array.getElem?_modify]
  rw [if_neg (Ne.symm h)]
theorem cell_eq {w w' : World} (a : Addr) (h : w'.heap[a.block]? = w.heap[a.block]?) : w'.cell? a = w.cell? a := by
  unfold World.cell?
  rw [h]
section
variable {w0 W : World} {ad : Addr} {c1 n : Nat} {T size : Int} {bp bo : Nat} {P O : List Int}
theorem split_reads (sz : Nat) (hS : SplitSt w0 W (some ad) c1 n T size bp bo P O) (l : List Int) (hl : n = l.length) (hr : Kd.C (Kd.int .i64) w0 (some ad) l.length l) (hn : n ≤ 64) (hn0 : Inhabited (Fin n))
    (s0 : 0 ≤ size) (s1 : size ≤ 1000000000) (t0 : 1 ≤ T) (hb : ∀ x ∈ l, 0 ≤ x ∧ x ≤ 1000000) :
    CmpReads Tryd.prog 31 #[.pointer (some ⟨w0.heap.size + 1 + 1, 0, none⟩), .pointer (some ⟨w0.heap.size, 0, none⟩), .pointer (some ⟨w0.heap.size + 1, 0, none⟩)] (encF n) (cfF size T l n) bo 0 sz W := by
  intro m os dk hdk x y
  have hbo := hS.bo2
  have hlt : bo < W.heap.size := Kd.R_lt hS.ro bo (by simp [Value.ownBlock])
  have old : ∀ k, k ≠ bo → k < W.heap.size → (sortWorld (encF n) W bo 0 m dk os).heap[k]? = W.heap[k]? := by
    intro k hk hkl
    unfold sortWorld
    rw [Go.Sort.heap_grow_old _ _ (by show k < (putRow (encF n) (Go.Sort.ahead W m) bo 0 dk).heap.size; simp; exact hkl), heap_putRow_far _ _ _ _ _ _ hk]
    rfl
  have hsz : w0.heap.size ≤ W.heap.size := hS.below.size
  have wcell : ∀ z : Fin n, (sortWorld (encF n) W bo 0 m dk os).cell? (ad.add z.val) = some (.int .i64 (l.getD z.val 0)) := by
    intro z
    obtain ⟨ad2, h2, hc⟩ := Kd.at_int hr (z.val : Int) (by omega) (by have := z.isLt; omega)
    obtain rfl := Option.some.inj h2
    rw [Int.toNat_natCast] at hc
    have hlb := World.block_lt_of_cell? w0 _ hc
    rw [cell_eq _ (old _ (by omega) (by omega)), hS.below.cell hlb, hc]
    have : z.val < l.length := by have := z.isLt; omega
    simp [rd, this]
  have hx := hb (l.getD x.val 0) (by have : x.val < l.length := (by have := x.isLt; omega); simp [this])
  have hy := hb (l.getD y.val 0) (by have : y.val < l.length := (by have := y.isLt; omega); simp [this])
  exact split_cmp (w0.heap.size + 1 + 1) w0.heap.size (w0.heap.size + 1) size T ad n c1 l x.val y.val _
    ((cell_eq _ (old _ (by simp only; omega) (by simp only; omega))).trans hS.e2) ((cell_eq _ (old _ (by simp only; omega) (by simp only; omega))).trans hS.e0) ((cell_eq _ (old _ (by simp only; omega) (by simp only; omega))).trans hS.e1)
    (wcell x) (wcell y) x.isLt y.isLt hn s0 s1 t0 hx.1 hx.2 hy.1 hy.2
end

section
variable {w0 W : World} {A1 : Option Addr} {c1 n : Nat} {T size : Int} {bp bo : Nat} {P O : List Int}
theorem SplitSt.rowO [Inhabited (Fin n)] (h : SplitSt w0 W A1 c1 n T size bp bo P O) (d : Array (Fin n)) (hd : d.size = n) : SplitSt w0 (putRow (encF n) W bo 0 d) A1 c1 n T size bp bo P (d.toList.map (fun x => (x.val : Int))) := by
  have hb := h.bo2
  have hlt : bo < W.heap.size := Kd.R_lt h.ro bo (by simp [Value.ownBlock])
  have far := fun k hk => heap_putRow_far (encF n) W bo 0 d k hk
  refine ⟨?_, ?_, ?_, ?_, ?_, ?_, h.bp2, h.bo2, h.ne⟩
  · refine h.below.trans ⟨rfl, rfl, rfl, Nat.le_of_eq (by simp), fun k hk => far k (by omega)⟩
  · rw [cell_eq _ (far _ (by simp only; omega))]; exact h.e0
  · rw [cell_eq _ (far _ (by simp only; omega))]; exact h.e1
  · rw [cell_eq _ (far _ (by simp only; omega))]; exact h.e2
  · refine Kd.R_move h.rp (fun k hk => far k ?_)
    have := h.ne
    omega
  · obtain ⟨inner, hl, ho⟩ := Kd.R_own h.ro
    rcases ho with ⟨he, _⟩ | ⟨g, cap, cur, he, hg, hh, hc1, hc2, hc3, _⟩
    · cases he
    · injection he with e1 e2 e3
      injection e1 with e1
      injection e1 with e1
      subst e1
      have hcs : cur.size = n := by rw [hc3, ← e3]; exact Nat.mul_one n
      refine Kd.R_of_own ?_ (fun k hk => by simpa [Value.ownBlock] using hk.symm)
      have hmap : putCells (encF n) 0 d cur = (d.map (encF n)) := by
        apply Array.ext_getElem?
        intro k
        simp only [putCells, Array.getElem?_mapIdx, Array.getElem?_map]
        by_cases hk : k < n
        · have h1 : cur[k]? = some cur[k] := Array.getElem?_eq_getElem (by omega)
          have h2 : d[k]? = some d[k] := Array.getElem?_eq_getElem (by omega)
          rw [h1, h2]
          simp only [Option.map_some]
          rw [if_pos (by omega), Nat.sub_zero, getElem!_pos d k (by omega)]
        · rw [Array.getElem?_eq_none (by omega), Array.getElem?_eq_none (by omega)]
          rfl
      refine ⟨by simp [encs, hd], .inr ⟨bo, n, d.map (encF n), by simp [hd], by omega, ?_, by simp [hd], ?_, by simp [hd], ?_⟩⟩
      · rw [← hmap]
        simp only [putRow, mapBlock, Array.getElem?_modify, if_pos, hh]
        rfl
      · omega
      · rw [List.take_of_length_le (by simp [hd])]
        simp [encs, encF, List.map_map, Function.comp_def]
theorem SplitSt.holds [Inhabited (Fin n)] (h : SplitSt w0 W A1 c1 n T size bp bo P O) (d : Array (Fin n)) (hd : d.size = n) (hO : O = d.toList.map (fun x => (x.val : Int))) : Holds (encF n) W bo 0 d := by
  intro j hj
  have hc := h.cellO j (by omega)
  rw [Nat.zero_add]
  refine ⟨?_, hc.2⟩
  rw [hc.1, hO]
  have e : rd (d.toList.map (fun x => (x.val : Int))) j = (d[j].val : Int) := by unfold rd; simp [hj]
  rw [e, getElem!_pos d j hj]
  rfl
end
/-- The order in which Split gives the cents that are left. -/
def idF (n : Nat) : Array (Fin n) := Array.ofFn id
def ordA (size T : Int) (l : List Int) (hn : 0 < l.length) : Array (Fin l.length) :=
  haveI : Inhabited (Fin l.length) := ⟨⟨0, hn⟩⟩
  Sort.insertionSort (ltOf (cfF size T l l.length)) (idF l.length) 0 l.length
theorem size_insInner {α : Type} [Inhabited α] (lt : α → α → Bool) (a : Nat) : ∀ (j : Nat) (d : Array α), (Sort.insInner lt a j d).size = d.size
  | 0, d => rfl
  | j + 1, d => by
    rw [Sort.insInner]
    split
    · rw [size_insInner lt a j]
      simp [Sort.swp]
    · rfl
theorem size_insOuter {α : Type} [Inhabited α] (lt : α → α → Bool) (a b : Nat) : ∀ (k i : Nat) (d : Array α), b - i ≤ k → (Sort.insOuter lt a b i d).size = d.size
  | 0, i, d, h => by
    rw [Sort.insOuter, if_neg (by omega)]
  | k + 1, i, d, h => by
    rw [Sort.insOuter]
    split
    · rw [size_insOuter lt a b k _ _ (by omega), size_insInner]
    · rfl
theorem ordA_size (size T : Int) (l : List Int) (hn : 0 < l.length) : (ordA size T l hn).size = l.length := by
  letI : Inhabited (Fin l.length) := ⟨⟨0, hn⟩⟩
  unfold ordA Sort.insertionSort
  rw [size_insOuter _ _ _ _ _ _ (Nat.le_refl _)]
  simp [idF]
def ordL (size T : Int) (l : List Int) (hn : 0 < l.length) : List Int := (ordA size T l hn).toList.map (fun x => (x.val : Int))
theorem fillO_id (n : Nat) : fillO n n = (idF n).toList.map (fun x => (x.val : Int)) := by
  unfold fillO idF
  apply List.ext_getElem
  · simp
  · intro i h1 h2
    simp
theorem sort_split {w0 W : World} {ad : Addr} {c1 : Nat} {T size : Int} {bp bo : Nat} {P : List Int} (l : List Int) (hS : SplitSt w0 W (some ad) c1 l.length T size bp bo P (fillO l.length l.length)) (hr : Kd.C (Kd.int .i64) w0 (some ad) l.length l) (hn : l.length < 20) (hn0 : 0 < l.length)
    (s0 : 0 ≤ size) (s1 : size ≤ 1000000000) (t0 : 1 ≤ T) (hb : ∀ x ∈ l, 0 ≤ x ∧ x ≤ 1000000) :
    Calls Tryd.prog 30 #[.slice (some ⟨bo, 0, none⟩) l.length l.length, .func (.func 31) #[] #[.pointer (some ⟨w0.heap.size + 1 + 1, 0, none⟩), .pointer (some ⟨w0.heap.size, 0, none⟩), .pointer (some ⟨w0.heap.size + 1, 0, none⟩)]] W fun e w' =>
      e = .returned (.tuple #[]) ∧ SplitSt w0 w' (some ad) c1 l.length T size bp bo P (ordL size T l hn0) := by
  letI : Inhabited (Fin l.length) := ⟨⟨0, hn0⟩⟩
  have hid : (idF l.length).size = l.length := by simp [idF]
  have hH := hS.holds (idF l.length) hid (fillO_id _)
  have hR := split_reads (idF l.length).size hS l rfl hr (by omega) ⟨⟨0, hn0⟩⟩ s0 s1 t0 hb
  have h := sort_small (encF l.length) (encF_one _) (cfF size T l l.length) 31 _ bo l.length (idF l.length) W (enters_of Tryd.func31 (by kernel_rfl) rfl) hR hH (by omega)
  rw [hid] at h
  refine h.mono ?_
  rintro e w' ⟨rfl, m, rfl⟩
  exact ⟨rfl, (hS.rowO (ordA size T l hn0) (ordA_size ..)).drewN m⟩
end
/-- One more at each of these places. -/
def incs (P : List Int) : List Int → List Int
  | [] => P
  | i :: r => incs (P.set i.toNat (rd P i + 1)) r
theorem ordL_length (size T : Int) (l : List Int) (hn : 0 < l.length) : (ordL size T l hn).length = l.length := by
  unfold ordL
  rw [List.length_map, Array.length_toList, ordA_size]
theorem ordL_bd (size T : Int) (l : List Int) (hn : 0 < l.length) (i : Nat) (hi : i < l.length) : 0 ≤ rd (ordL size T l hn) i ∧ rd (ordL size T l hn) i < (l.length : Int) := by
  have hl := ordL_length size T l hn
  have e : rd (ordL size T l hn) i = ((ordA size T l hn)[i]'(by rw [ordA_size]; exact hi)).val := by
    unfold rd ordL
    have : i < (ordA size T l hn).size := by rw [ordA_size]; exact hi
    simp [this]
  rw [e]
  have := ((ordA size T l hn)[i]'(by rw [ordA_size]; exact hi)).isLt
  omega
theorem rd_set (P : List Int) (i : Nat) (x : Int) : ∀ y ∈ P.set i x, y ∈ P ∨ y = x := by
  intro y hy
  rcases List.mem_or_eq_of_mem_set hy with h | h
  · exact .inl h
  · exact .inr h
theorem take_drop_cons (O : List Int) (m k : Nat) (hk : k < m) (hm : m ≤ O.length) : (O.take m).drop k = rd O k :: (O.take m).drop (k + 1) := by
  have h : k < (O.take m).length := by rw [List.length_take]; omega
  rw [List.drop_eq_getElem_cons h]
  congr 1
  have : k < O.length := by omega
  simp [rd, this]
/-- The parts with their sign, the first i of them. -/
def signs (P : List Int) (sgn : Int) (i : Nat) : List Int := (P.take i).map (· * sgn) ++ P.drop i
theorem signs_set (P : List Int) (sgn : Int) (i : Nat) (hi : i < P.length) : (signs P sgn i).set i (rd P i * sgn) = signs P sgn (i + 1) := by
  have e : rd P i = P[i] := by unfold rd; simp [hi]
  have hl : ((P.take i).map (· * sgn)).length = i := by simp; omega
  unfold signs
  rw [List.set_append_right _ _ (by omega), hl, Nat.sub_self, List.drop_eq_getElem_cons hi, List.set_cons_zero, take_succ_eq P i hi, List.map_append, List.append_assoc, e]
  rfl
theorem rd_signs (P : List Int) (sgn : Int) (i : Nat) (hi : i < P.length) : rd (signs P sgn i) i = rd P i := by
  have hl : ((P.take i).map (· * sgn)).length = i := by simp; omega
  have e : rd P i = P[i] := by unfold rd; simp [hi]
  unfold signs
  rw [List.drop_eq_getElem_cons hi, e]
  have h2 : ((P.take i).map (· * sgn) ++ P[i] :: P.drop (i + 1))[i]? = some P[i] := by rw [List.getElem?_append_right (by omega), hl, Nat.sub_self]; rfl
  unfold rd
  rw [Int.toNat_natCast, List.getD_eq_getElem?_getD, h2]
  rfl
theorem fillP_all (size T : Int) (l : List Int) : fillP size T l l.length = qs size T l := by simp [fillP]
theorem qs_bd (size T : Int) (l : List Int) (hs : 0 ≤ size) (hT : 1 ≤ T) (hl : ∀ x ∈ l, 0 ≤ x ∧ x ≤ 1000000) (e : T = l.sum) : ∀ y ∈ qs size T l, 0 ≤ y ∧ y ≤ size := by
  intro y hy
  obtain ⟨x, hx, rfl⟩ := List.mem_map.mp hy
  have hb := hl x hx
  have hxs : x ≤ l.sum := by
    clear e hy hs hb
    induction l with
    | nil => cases hx
    | cons z l ih =>
      have hz := hl z (List.mem_cons_self)
      have hh : ∀ y ∈ l, 0 ≤ y ∧ y ≤ 1000000 := fun y hy => hl y (List.mem_cons_of_mem _ hy)
      have hsum := (sum_nonneg_le l 0 hh).1
      rw [List.sum_cons]
      rcases List.mem_cons.mp hx with rfl | hx
      · omega
      · have := ih hh hx
        omega
  refine ⟨Int.ediv_nonneg (Int.mul_nonneg hs hb.1) (by omega), ?_⟩
  have h1 : size * x ≤ size * T := Int.mul_le_mul_of_nonneg_left (by omega) hs
  calc size * x / T ≤ size * T / T := Int.ediv_le_ediv (by omega) h1
    _ = size := Int.mul_ediv_cancel _ (by omega)
theorem signs_all (P : List Int) (sgn : Int) (n : Nat) (h : P.length = n) : signs P sgn n = P.map (· * sgn) := by
  subst h
  simp [signs]
/-- What Split returns. -/
def splitRes (c T : Int) (l : List Int) (hn : 0 < l.length) : List Int :=
  (incs (qs (if c < 0 then -c else c) T l) ((ordL (if c < 0 then -c else c) T l hn).take (leftAt (if c < 0 then -c else c) T l l.length).toNat)).map (· * (if c < 0 then -1 else 1))
theorem splitRes_of (c T : Int) (l : List Int) (hn : 0 < l.length) (size sgn : Int) (hsg : (c < 0 ∧ size = -c ∧ sgn = -1) ∨ (0 ≤ c ∧ size = c ∧ sgn = 1)) (k : Nat) (hk : leftAt size T l l.length = k) (Pf : List Int) (hP : incs (qs size T l) ((ordL size T l hn).take k) = Pf) :
    splitRes c T l hn = Pf.map (· * sgn) := by
  have e1 : (if c < 0 then -c else c) = size := by split <;> omega
  have e2 : (if c < 0 then (-1 : Int) else 1) = sgn := by split <;> omega
  unfold splitRes
  rw [e1, e2, hk, Int.toNat_natCast, hP]
set_option maxRecDepth 100000 in
set_option maxHeartbeats 8000000 in
theorem split_c (c : Int) (A1 : Option Addr) (c1 : Nat) (l1 : List Int) (T : Int) (w : World) (hr1 : Kd.C (Kd.int .i64) w A1 l1.length l1) (hc1 : l1.length ≤ c1)
    (ht : splitTotal l1 0 = some T) (hv : -1000000000 ≤ c ∧ c ≤ 1000000000) (hl : l1.length ≤ 64) (hT : 1 ≤ T) (hn20 : l1.length < 20) (hn00 : 0 < l1.length) :
    Calls Tryd.prog 15 #[.int .i64 c, .slice A1 l1.length c1] w fun e w' => ∃ v0_ : Value, e = .returned (.tuple #[v0_, .int .i64 0]) ∧ Kd.R (Kd.int .i64) 3 w' w.heap.size (fun _ => True) v0_ (splitRes c T l1 hn00) ∧ Below w.heap.size w w' := by
  have HR := Aside0.mk hr1
  have HT := Aside0.mk ht
  have hlen := hr1.2.1
  clear hr1 ht
  have HV : Aside0 (money_amount_valid.f c = some true) := ⟨by
    unfold money_amount_valid.f
    rw [if_pos hv.1, decide_eq_true hv.2]⟩
  have hmk := run_make_row' (P := Tryd.prog) 34 3 (.int .i64 0) 8 Tryd.underlying34 (by kernel_rfl) rfl .i64 .i64 l1.length (by omega) (by omega)
  go_enter Tryd.func15, Tryd.ntmps15
  go_wp2_with fail
  go_loopw [20] (fun v wr => ∃ (i : Nat) (s : Int), v = .int .i64 i ∧ i ≤ l1.length ∧ wr = (w.alloc (.cells #[.slice A1 l1.length c1] 34)).alloc (.cells #[.int .i64 s] 3) ∧ Aside0 (splitTotal (l1.drop i) s = some T)) (fun v _ => l1.length - (intOf v).toNat)
  case atStart => exact ⟨0, 0, rfl, by omega, rfl, ⟨by simpa using HT.out⟩⟩
  case round =>
    obtain ⟨i, s, rfl, hi, rfl, HS⟩ := hrel
    by_cases hlt : i < l1.length
    · have hd := HS.out
      rw [splitTotal_drop l1 i s hlt] at hd
      have hr2 : Kd.C (Kd.int .i64) ((w.alloc (.cells #[.slice A1 l1.length c1] 34)).alloc (.cells #[.int .i64 s] 3)) A1 l1.length l1 := Kd.C_below HR.out (below_alloc (below_alloc (Below.refl _ _) _) _)
      obtain ⟨ad, rfl, hcell⟩ := Kd.at_int hr2 (i : Int) (by omega) (by omega)
      rw [Int.toNat_natCast] at hcell
      have hltz : (i : Int) < (l1.length : Int) := by omega
      by_cases h0 : rd l1 i < 0 ∨ 1000000 < rd l1 i
      · rw [if_pos h0] at hd
        cases hd
      · rw [if_neg h0] at hd
        have h0b : decide (rd l1 i < 0) = false := decide_eq_false (by omega)
        have h1b : decide (1000000 < rd l1 i) = false := decide_eq_false (by omega)
        have HD := Aside0.mk hd
        clear hd HS h0
        go_wp2
        go_roundw
        case rel => exact ⟨i + 1, wrap64 (s + rd l1 i), by go_num, by omega, rfl, HD⟩
        case measure => simp [intOf]; omega
    · have e : i = l1.length := by omega
      subst e
      have hd := HS.out
      rw [List.drop_length] at hd
      obtain rfl := Option.some.inj hd
      clear hd HS hlt
      have hlb : decide (64 < l1.length) = false := decide_eq_false (by omega)
      have hlz : decide ((64 : Int) < (l1.length : Int)) = false := decide_eq_false (by omega)
      have hsz : (s == 0) = false := by simp; omega
      go_wp2_with fail
      refine (money_amount_valid.calls c _ _ HV.out).mono ?_
      rintro e w' ⟨rfl, ⟨nd, rfl⟩⟩
      go_upto_if 48 with (fail)
      go_cut [9] (fun v9 wc => ∃ (size sgn : Int), v9 = .int .i64 sgn ∧ ((c < 0 ∧ size = -c ∧ sgn = -1) ∨ (0 ≤ c ∧ size = c ∧ sgn = 1)) ∧ wc = (((w.alloc (.cells #[.slice A1 l1.length c1] 34)).alloc (.cells #[.int .i64 s] 3)).drewN nd).alloc (.cells #[.int .i64 size] 3))
      case first =>
        by_cases hc : c < 0
        · have hcb : decide (c < 0) = true := decide_eq_true hc
          have hcw := wrap_i64 (-c) (by omega) (by omega)
          go_wp2
          go_meet
          case rel => exact ⟨-c, -1, rfl, .inl ⟨hc, rfl, rfl⟩, rfl⟩
        · have hcb : decide (c < 0) = false := decide_eq_false hc
          go_wp2
          go_meet
          case rel => exact ⟨c, 1, rfl, .inr ⟨by omega, rfl, rfl⟩, rfl⟩
      case rest =>
        obtain ⟨size, sgn, rfl, hsg, rfl⟩ := hcut
        have s0 : 0 ≤ size := by omega
        have s1 : size ≤ 1000000000 := by omega
        obtain ⟨hTs, hlb2⟩ := splitTotal_sum l1 0 s HT.out (by omega) (by omega)
        rw [Int.zero_add] at hTs
        have HL := Aside0.mk hlb2
        have HTS := Aside0.mk hTs
        clear hTs hlb2
        have hn0 : 0 < l1.length := by
          cases l1 with
          | nil => have := HTS.out; simp at this; omega
          | cons x l => simp
        go_wp2_with fail
        go_region
        · obtain ⟨bp, hbp⟩ : ∃ b, b = w.heap.size + 1 + 1 + 1 := ⟨_, rfl⟩
          obtain ⟨bo, hbo⟩ : ∃ b, b = w.heap.size + 1 + 1 + 1 + 1 := ⟨_, rfl⟩
          rw [← hbo, ← hbp]
          have HS0 := split_start w A1 c1 l1.length s size nd bp bo (by omega) (by omega)
          unfold splitW at HS0
          generalize ((((((w.alloc (.cells #[.slice A1 l1.length c1] 34)).alloc (.cells #[.int .i64 s] 3)).drewN nd).alloc (.cells #[.int .i64 size] 3)).alloc (.cells (madeCells #[.int .i64 0] l1.length) 3)).alloc (.cells (madeCells #[.int .i64 0] l1.length) 3)).drew = W at HS0 ⊢
          have HS := Aside0.mk HS0
          have e0 := HS0.e0
          clear hmk hbp hbo HS0
          go_wp2_with fail
          go_loopw [13, 60] (fun v13 v60 wr => ∃ i : Nat, v13 = .int .i64 (leftAt size s l1 i) ∧ v60 = .int .i64 i ∧ i ≤ l1.length ∧ Aside0 (SplitSt w wr A1 c1 l1.length s size bp bo (fillP size s l1 i) (fillO l1.length i))) (fun _ v60 _ => l1.length - (intOf v60).toNat)
          case atStart => exact ⟨0, by simp [leftAt, qs], rfl, by omega, ⟨by simpa [fillP, fillO, qs] using HS.out⟩⟩
          case round =>
            clear e0 HS
            obtain ⟨i, rfl, rfl, hi, HS⟩ := hrel
            have hbd := leftAt_bd size s l1 i s0 hT HL.out HTS.out
            by_cases hlt : i < l1.length
            · have hltz : (i : Int) < (l1.length : Int) := by omega
              have hr2 : Kd.C (Kd.int .i64) wr A1 l1.length l1 := Kd.C_below HR.out HS.out.below
              obtain ⟨ad, rfl, hcell⟩ := Kd.at_int hr2 (i : Int) (by omega) (by omega)
              rw [Int.toNat_natCast] at hcell
              have hx := HL.out (rd l1 i) (rd_mem l1 i hlt)
              have hpr := prod_b s0 s1 hx.1 hx.2
              have hw := wrap_i64 (size * rd l1 i) (by omega) (by omega)
              have hq := quo_bd (size * rd l1 i) s hpr.1 hT
              have hsucc := leftAt_succ size s l1 i hlt
              have hbd2 := leftAt_bd size s l1 (i + 1) s0 hT HL.out HTS.out
              have hSet := Aside0.mk (((HS.out.setP i (size * rd l1 i / s)).setO i (i : Int)).drew)
              rw [fillP_set size s l1 i hlt, fillO_set l1.length i hlt] at hSet
              have hrdP := rd_fillP size s l1 i hlt
              obtain ⟨pr, hpr'⟩ : ∃ z, size * rd l1 i = z := ⟨_, rfl⟩
              obtain ⟨qu, hqu⟩ : ∃ z, pr / s = z := ⟨_, rfl⟩
              rw [hpr'] at hpr hw hq hsucc hrdP hSet
              rw [hqu] at hsucc hrdP hSet
              have f0 := HS.out.e0
              have f1 := HS.out.e1
              have f2 := HS.out.e2
              have fp := HS.out.cellP i hlt
              have fo := HS.out.cellO i hlt
              have sne : ¬ s = 0 := by omega
              have hi0 : (0 : Int) ≤ (i : Int) := by omega
              have hwq := wrap_i64 qu (by omega) (by omega)
              have fow : (wr.setCell ⟨bp, i, none⟩ (.int .i64 qu)).cell? ⟨bo, i, none⟩ = some (.int .i64 (rd (fillO l1.length i) i)) := (cell_far _ _ _ _ (by show bo ≠ bp; exact HS.out.ne.symm)).trans fo.1
              have fox : (wr.setCell ⟨bp, i, none⟩ (.int .i64 qu)).frozen? ⟨bo, i, none⟩ = false := (World.frozen?_setCell ..).trans fo.2
              go_wp2_with fail
              go_region
              generalize ((wr.setCell ⟨bp, i, none⟩ (.int .i64 qu)).setCell ⟨bo, i, none⟩ (.int .i64 (i : Int))).drew = wr2 at hSet ⊢
              have fp2 := hSet.out.cellP i hlt
              rw [hrdP] at fp2
              have hwl := wrap_i64 (leftAt size s l1 i - qu) (by omega) (by omega)
              clear f0 f1 f2 fp fo fow fox hwq hw hq
              go_wp2
              go_roundw
              case rel => exact ⟨i + 1, by rw [hsucc], by go_num, by omega, hSet⟩
              case measure => simp [intOf]; omega
            · have e : i = l1.length := by omega
              subst e
              obtain ⟨ad, rfl, -⟩ := Kd.at_int HR.out (0 : Int) (by omega) (by omega)
              have hlend := left_end size s l1 hT HTS.out hn0
              have hso := sort_split l1 HS.out HR.out hn20 hn0 s0 s1 hT HL.out
              have hbL := leftAt_bd size s l1 l1.length s0 hT HL.out HTS.out
              have hqb := qs_bd size s l1 s0 hT HL.out HTS.out
              have hOl := ordL_length size s l1 hn0
              rw [fillP_all] at hso
              obtain ⟨m, hm⟩ : ∃ m : Nat, leftAt size s l1 l1.length = m := ⟨(leftAt size s l1 l1.length).toNat, by omega⟩
              rw [hm] at hlend hbL ⊢
              clear hlt HS hbd
              go_wp2_with (go_at_call 30; refine hso.mono ?_; rintro e w1 ⟨rfl, HS1⟩)
              go_loopw [92] (fun v92 wr => ∃ (k : Nat) (Pk : List Int), v92 = .int .i64 k ∧ k ≤ m ∧ Aside0 (SplitSt w wr (some ad) c1 l1.length s size bp bo Pk (ordL size s l1 hn0)) ∧ Aside0 (∀ y ∈ Pk, 0 ≤ y ∧ y ≤ size + k) ∧ Aside0 (incs Pk (((ordL size s l1 hn0).take m).drop k) = incs (qs size s l1) ((ordL size s l1 hn0).take m))) (fun v92 _ => m - (intOf v92).toNat)
              case atStart => exact ⟨0, qs size s l1, rfl, by omega, ⟨HS1⟩, ⟨by simpa using hqb⟩, ⟨rfl⟩⟩
              case round =>
                clear HS1 hqb
                obtain ⟨k, Pk, rfl, hk, HS, HB, HI⟩ := hrel
                by_cases hlt : k < m
                · have hltz : (k : Int) < (m : Int) := by omega
                  have hib := ordL_bd size s l1 hn0 k (by omega)
                  have fo := HS.out.cellO k (by omega)
                  have hI2 := HI.out
                  rw [take_drop_cons _ m k hlt (by omega), incs] at hI2
                  obtain ⟨ix, hix⟩ : ∃ ix : Nat, rd (ordL size s l1 hn0) k = ix := ⟨(rd (ordL size s l1 hn0) k).toNat, by omega⟩
                  rw [hix] at hib fo hI2
                  rw [Int.toNat_natCast] at hI2
                  have hixl : ix < l1.length := by omega
                  have hPl : Pk.length = l1.length := (Kd.R_reads' HS.out.rp).1.symm
                  have fp := HS.out.cellP ix hixl
                  have hpb := HB.out (rd Pk ix) (rd_mem Pk ix (by omega))
                  have hw := wrap_i64 (rd Pk ix + 1) (by omega) (by omega)
                  have hSet := Aside0.mk (HS.out.setP ix (rd Pk ix + 1))
                  have hI3 := Aside0.mk hI2
                  have hB3 : Aside0 (∀ y ∈ Pk.set ix (rd Pk ix + 1), 0 ≤ y ∧ y ≤ size + (k + 1 : Nat)) := ⟨by
                    intro y hy
                    rcases rd_set _ _ _ y hy with h | h
                    · have := HB.out y h; omega
                    · omega⟩
                  clear hI2 HI HS HB hix
                  go_wp2
                  go_roundw
                  case rel => exact ⟨k + 1, _, by go_num, by omega, ⟨by first | exact hSet.out | exact hSet.out.drew⟩, hB3, hI3⟩
                  case measure => simp [intOf]; omega
                · have e : k = m := by omega
                  subst e
                  clear hlt
                  have hI2 := HI.out
                  rw [List.drop_eq_nil_of_le (by rw [List.length_take]; omega), incs] at hI2
                  subst hI2
                  clear HI
                  obtain ⟨Pf, hPf⟩ : ∃ Pf, incs (qs size s l1) ((ordL size s l1 hn0).take k) = Pf := ⟨_, rfl⟩
                  rw [hPf] at HS HB
                  have hPl : Pf.length = l1.length := (Kd.R_reads' HS.out.rp).1.symm
                  have HPF := Aside0.mk hPf
                  clear hPf
                  go_wp2_with fail
                  go_loopw [105] (fun v105 wr => ∃ i : Nat, v105 = .int .i64 i ∧ i ≤ l1.length ∧ Aside0 (SplitSt w wr (some ad) c1 l1.length s size bp bo (signs Pf sgn i) (ordL size s l1 hn0))) (fun v105 _ => l1.length - (intOf v105).toNat)
                  case atStart => exact ⟨0, rfl, by omega, ⟨by simpa [signs] using HS.out⟩⟩
                  case round =>
                    clear HS
                    obtain ⟨i, rfl, hi, HS⟩ := hrel
                    by_cases hlt : i < l1.length
                    · have hltz : (i : Int) < (l1.length : Int) := by omega
                      have fp := HS.out.cellP i hlt
                      have hi0 : (0 : Int) ≤ (i : Int) := by omega
                      have hpb := HB.out (rd Pf i) (rd_mem Pf i (by omega))
                      have hSet := Aside0.mk (HS.out.setP i (rd Pf i * sgn))
                      rw [signs_set Pf sgn i (by omega)] at hSet
                      rw [rd_signs Pf sgn i (by omega)] at fp
                      have hw : IntKind.i64.wrap (rd Pf i * sgn) = rd Pf i * sgn := by
                        refine wrap_i64 _ ?_ ?_
                        · rcases hsg with ⟨_, _, e⟩ | ⟨_, _, e⟩ <;> rw [e] <;> omega
                        · rcases hsg with ⟨_, _, e⟩ | ⟨_, _, e⟩ <;> rw [e] <;> omega
                      obtain ⟨px, hpx⟩ : ∃ px, rd Pf i * sgn = px := ⟨_, rfl⟩
                      have HPX := Aside0.mk hpx
                      have mw : IntKind.i64.wrap (rd Pf i * sgn) = px := hw.trans hpx
                      rw [hpx] at hSet
                      clear HS hsg hpx hw
                      go_wp2
                      go_roundw
                      case rel => exact ⟨i + 1, by go_num, by omega, ⟨by first | exact hSet.out | exact hSet.out.drew⟩⟩
                      case measure => simp [intOf]; omega
                    · have e : i = l1.length := by omega
                      subst e
                      go_wp2
                      go_ret2
                      have hr := splitRes_of c s l1 hn0 size sgn hsg k hm Pf HPF.out
                      have hs2 := signs_all Pf sgn l1.length hPl
                      refine ⟨_, rfl, ?_, HS.out.below⟩
                      rw [hr, ← hs2]
                      exact Kd.R_mono HS.out.rp (fun _ _ => trivial)
        · obtain ⟨bo, hbo⟩ : ∃ b, b = w.heap.size + 1 + 1 + 1 := ⟨_, rfl⟩
          obtain ⟨bp, hbp⟩ : ∃ b, b = w.heap.size + 1 + 1 + 1 + 1 := ⟨_, rfl⟩
          rw [← hbp, ← hbo]
          have HS0 := split_start w A1 c1 l1.length s size nd bp bo (by omega) (by omega)
          unfold splitW at HS0
          generalize ((((((w.alloc (.cells #[.slice A1 l1.length c1] 34)).alloc (.cells #[.int .i64 s] 3)).drewN nd).alloc (.cells #[.int .i64 size] 3)).alloc (.cells (madeCells #[.int .i64 0] l1.length) 3)).alloc (.cells (madeCells #[.int .i64 0] l1.length) 3)).drew = W at HS0 ⊢
          have HS := Aside0.mk HS0
          have e0 := HS0.e0
          clear hmk hbp hbo HS0
          go_wp2_with fail
          go_loopw [13, 60] (fun v13 v60 wr => ∃ i : Nat, v13 = .int .i64 (leftAt size s l1 i) ∧ v60 = .int .i64 i ∧ i ≤ l1.length ∧ Aside0 (SplitSt w wr A1 c1 l1.length s size bp bo (fillP size s l1 i) (fillO l1.length i))) (fun _ v60 _ => l1.length - (intOf v60).toNat)
          case atStart => exact ⟨0, by simp [leftAt, qs], rfl, by omega, ⟨by simpa [fillP, fillO, qs] using HS.out⟩⟩
          case round =>
            clear e0 HS
            obtain ⟨i, rfl, rfl, hi, HS⟩ := hrel
            have hbd := leftAt_bd size s l1 i s0 hT HL.out HTS.out
            by_cases hlt : i < l1.length
            · have hltz : (i : Int) < (l1.length : Int) := by omega
              have hr2 : Kd.C (Kd.int .i64) wr A1 l1.length l1 := Kd.C_below HR.out HS.out.below
              obtain ⟨ad, rfl, hcell⟩ := Kd.at_int hr2 (i : Int) (by omega) (by omega)
              rw [Int.toNat_natCast] at hcell
              have hx := HL.out (rd l1 i) (rd_mem l1 i hlt)
              have hpr := prod_b s0 s1 hx.1 hx.2
              have hw := wrap_i64 (size * rd l1 i) (by omega) (by omega)
              have hq := quo_bd (size * rd l1 i) s hpr.1 hT
              have hsucc := leftAt_succ size s l1 i hlt
              have hbd2 := leftAt_bd size s l1 (i + 1) s0 hT HL.out HTS.out
              have hSet := Aside0.mk (((HS.out.setP i (size * rd l1 i / s)).setO i (i : Int)).drew)
              rw [fillP_set size s l1 i hlt, fillO_set l1.length i hlt] at hSet
              have hrdP := rd_fillP size s l1 i hlt
              obtain ⟨pr, hpr'⟩ : ∃ z, size * rd l1 i = z := ⟨_, rfl⟩
              obtain ⟨qu, hqu⟩ : ∃ z, pr / s = z := ⟨_, rfl⟩
              rw [hpr'] at hpr hw hq hsucc hrdP hSet
              rw [hqu] at hsucc hrdP hSet
              have f0 := HS.out.e0
              have f1 := HS.out.e1
              have f2 := HS.out.e2
              have fp := HS.out.cellP i hlt
              have fo := HS.out.cellO i hlt
              have sne : ¬ s = 0 := by omega
              have hi0 : (0 : Int) ≤ (i : Int) := by omega
              have hwq := wrap_i64 qu (by omega) (by omega)
              have fow : (wr.setCell ⟨bp, i, none⟩ (.int .i64 qu)).cell? ⟨bo, i, none⟩ = some (.int .i64 (rd (fillO l1.length i) i)) := (cell_far _ _ _ _ (by show bo ≠ bp; exact HS.out.ne.symm)).trans fo.1
              have fox : (wr.setCell ⟨bp, i, none⟩ (.int .i64 qu)).frozen? ⟨bo, i, none⟩ = false := (World.frozen?_setCell ..).trans fo.2
              go_wp2_with fail
              go_region
              generalize ((wr.setCell ⟨bp, i, none⟩ (.int .i64 qu)).setCell ⟨bo, i, none⟩ (.int .i64 (i : Int))).drew = wr2 at hSet ⊢
              have fp2 := hSet.out.cellP i hlt
              rw [hrdP] at fp2
              have hwl := wrap_i64 (leftAt size s l1 i - qu) (by omega) (by omega)
              clear f0 f1 f2 fp fo fow fox hwq hw hq
              go_wp2
              go_roundw
              case rel => exact ⟨i + 1, by rw [hsucc], by go_num, by omega, hSet⟩
              case measure => simp [intOf]; omega
            · have e : i = l1.length := by omega
              subst e
              obtain ⟨ad, rfl, -⟩ := Kd.at_int HR.out (0 : Int) (by omega) (by omega)
              have hlend := left_end size s l1 hT HTS.out hn0
              have hso := sort_split l1 HS.out HR.out hn20 hn0 s0 s1 hT HL.out
              have hbL := leftAt_bd size s l1 l1.length s0 hT HL.out HTS.out
              have hqb := qs_bd size s l1 s0 hT HL.out HTS.out
              have hOl := ordL_length size s l1 hn0
              rw [fillP_all] at hso
              obtain ⟨m, hm⟩ : ∃ m : Nat, leftAt size s l1 l1.length = m := ⟨(leftAt size s l1 l1.length).toNat, by omega⟩
              rw [hm] at hlend hbL ⊢
              clear hlt HS hbd
              go_wp2_with (go_at_call 30; refine hso.mono ?_; rintro e w1 ⟨rfl, HS1⟩)
              go_loopw [92] (fun v92 wr => ∃ (k : Nat) (Pk : List Int), v92 = .int .i64 k ∧ k ≤ m ∧ Aside0 (SplitSt w wr (some ad) c1 l1.length s size bp bo Pk (ordL size s l1 hn0)) ∧ Aside0 (∀ y ∈ Pk, 0 ≤ y ∧ y ≤ size + k) ∧ Aside0 (incs Pk (((ordL size s l1 hn0).take m).drop k) = incs (qs size s l1) ((ordL size s l1 hn0).take m))) (fun v92 _ => m - (intOf v92).toNat)
              case atStart => exact ⟨0, qs size s l1, rfl, by omega, ⟨HS1⟩, ⟨by simpa using hqb⟩, ⟨rfl⟩⟩
              case round =>
                clear HS1 hqb
                obtain ⟨k, Pk, rfl, hk, HS, HB, HI⟩ := hrel
                by_cases hlt : k < m
                · have hltz : (k : Int) < (m : Int) := by omega
                  have hib := ordL_bd size s l1 hn0 k (by omega)
                  have fo := HS.out.cellO k (by omega)
                  have hI2 := HI.out
                  rw [take_drop_cons _ m k hlt (by omega), incs] at hI2
                  obtain ⟨ix, hix⟩ : ∃ ix : Nat, rd (ordL size s l1 hn0) k = ix := ⟨(rd (ordL size s l1 hn0) k).toNat, by omega⟩
                  rw [hix] at hib fo hI2
                  rw [Int.toNat_natCast] at hI2
                  have hixl : ix < l1.length := by omega
                  have hPl : Pk.length = l1.length := (Kd.R_reads' HS.out.rp).1.symm
                  have fp := HS.out.cellP ix hixl
                  have hpb := HB.out (rd Pk ix) (rd_mem Pk ix (by omega))
                  have hw := wrap_i64 (rd Pk ix + 1) (by omega) (by omega)
                  have hSet := Aside0.mk (HS.out.setP ix (rd Pk ix + 1))
                  have hI3 := Aside0.mk hI2
                  have hB3 : Aside0 (∀ y ∈ Pk.set ix (rd Pk ix + 1), 0 ≤ y ∧ y ≤ size + (k + 1 : Nat)) := ⟨by
                    intro y hy
                    rcases rd_set _ _ _ y hy with h | h
                    · have := HB.out y h; omega
                    · omega⟩
                  clear hI2 HI HS HB hix
                  go_wp2
                  go_roundw
                  case rel => exact ⟨k + 1, _, by go_num, by omega, ⟨by first | exact hSet.out | exact hSet.out.drew⟩, hB3, hI3⟩
                  case measure => simp [intOf]; omega
                · have e : k = m := by omega
                  subst e
                  clear hlt
                  have hI2 := HI.out
                  rw [List.drop_eq_nil_of_le (by rw [List.length_take]; omega), incs] at hI2
                  subst hI2
                  clear HI
                  obtain ⟨Pf, hPf⟩ : ∃ Pf, incs (qs size s l1) ((ordL size s l1 hn0).take k) = Pf := ⟨_, rfl⟩
                  rw [hPf] at HS HB
                  have hPl : Pf.length = l1.length := (Kd.R_reads' HS.out.rp).1.symm
                  have HPF := Aside0.mk hPf
                  clear hPf
                  go_wp2_with fail
                  go_loopw [105] (fun v105 wr => ∃ i : Nat, v105 = .int .i64 i ∧ i ≤ l1.length ∧ Aside0 (SplitSt w wr (some ad) c1 l1.length s size bp bo (signs Pf sgn i) (ordL size s l1 hn0))) (fun v105 _ => l1.length - (intOf v105).toNat)
                  case atStart => exact ⟨0, rfl, by omega, ⟨by simpa [signs] using HS.out⟩⟩
                  case round =>
                    clear HS
                    obtain ⟨i, rfl, hi, HS⟩ := hrel
                    by_cases hlt : i < l1.length
                    · have hltz : (i : Int) < (l1.length : Int) := by omega
                      have fp := HS.out.cellP i hlt
                      have hi0 : (0 : Int) ≤ (i : Int) := by omega
                      have hpb := HB.out (rd Pf i) (rd_mem Pf i (by omega))
                      have hSet := Aside0.mk (HS.out.setP i (rd Pf i * sgn))
                      rw [signs_set Pf sgn i (by omega)] at hSet
                      rw [rd_signs Pf sgn i (by omega)] at fp
                      have hw : IntKind.i64.wrap (rd Pf i * sgn) = rd Pf i * sgn := by
                        refine wrap_i64 _ ?_ ?_
                        · rcases hsg with ⟨_, _, e⟩ | ⟨_, _, e⟩ <;> rw [e] <;> omega
                        · rcases hsg with ⟨_, _, e⟩ | ⟨_, _, e⟩ <;> rw [e] <;> omega
                      obtain ⟨px, hpx⟩ : ∃ px, rd Pf i * sgn = px := ⟨_, rfl⟩
                      have HPX := Aside0.mk hpx
                      have mw : IntKind.i64.wrap (rd Pf i * sgn) = px := hw.trans hpx
                      rw [hpx] at hSet
                      clear HS hsg hpx hw
                      go_wp2
                      go_roundw
                      case rel => exact ⟨i + 1, by go_num, by omega, ⟨by first | exact hSet.out | exact hSet.out.drew⟩⟩
                      case measure => simp [intOf]; omega
                    · have e : i = l1.length := by omega
                      subst e
                      go_wp2
                      go_ret2
                      have hr := splitRes_of c s l1 hn0 size sgn hsg k hm Pf HPF.out
                      have hs2 := signs_all Pf sgn l1.length hPl
                      refine ⟨_, rfl, ?_, HS.out.below⟩
                      rw [hr, ← hs2]
                      exact Kd.R_mono HS.out.rp (fun _ _ => trivial)
def money_Split.f (a0 : Int) (l1 : List Int) : Option (List Int × Int) :=
  match splitTotal l1 0 with
  | none => some ([], 1)
  | some T => if ¬ (-1000000000 ≤ a0 ∧ a0 ≤ 1000000000) ∨ 64 < l1.length ∨ T = 0 then some ([], 1) else if h : l1.length < 20 ∧ 0 < l1.length then some (splitRes a0 T l1 h.2, 0) else none
theorem money_Split.calls (a0 : Int) (A1 : Option Addr) (c1 : Nat) (l1 : List Int) (r1 : List Int) (r2 : Int) (w : World) (hr1 : Kd.C (Kd.int .i64) w A1 l1.length l1) (hc1 : l1.length ≤ c1) (h : money_Split.f a0 l1 = some (r1, r2)) :
    Calls Tryd.prog 15 #[.int .i64 a0, .slice A1 l1.length c1] w fun e w' => ∃ v0_ : Value, e = .returned (.tuple #[v0_, .int .i64 r2]) ∧ Kd.R (Kd.int .i64) 3 w' w.heap.size (fun _ => True) v0_ r1 ∧ Below w.heap.size w w' := by
  unfold money_Split.f at h
  split at h
  · rename_i ht
    simp only [Option.some.injEq, Prod.mk.injEq] at h
    obtain ⟨rfl, rfl⟩ := h
    refine (split_a a0 A1 c1 l1 w hr1 hc1 ht).mono ?_
    rintro e w' ⟨rfl, hb⟩
    exact ⟨_, rfl, Kd.R_nil _ _ _ _ _, hb⟩
  · rename_i T ht
    split at h
    · rename_i hb0
      simp only [Option.some.injEq, Prod.mk.injEq] at h
      obtain ⟨rfl, rfl⟩ := h
      refine (split_b a0 A1 c1 l1 T w hr1 hc1 ht hb0).mono ?_
      rintro e w' ⟨rfl, hb⟩
      exact ⟨_, rfl, Kd.R_nil _ _ _ _ _, hb⟩
    · rename_i hb0
      split at h
      · rename_i hn
        simp only [Option.some.injEq, Prod.mk.injEq] at h
        obtain ⟨rfl, rfl⟩ := h
        have hT : 1 ≤ T := by
          obtain ⟨e, hm⟩ := splitTotal_sum l1 0 T ht (by omega) (by omega)
          have := (sum_nonneg_le l1 0 hm).1
          omega
        exact split_c a0 A1 c1 l1 T w hr1 hc1 ht (by omega) (by omega) hT hn.1 hn.2
      · cases h

end Go.Proofs.YtcbhaoaameiacaaDoor.X
