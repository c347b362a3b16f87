-- Written by a program of mine (wip/tools/xprint.py) over the kit's print.py: printed functions and hand-proved ones side by side.
import Derived.Test.YtcbhaoaameiacaaDoorXx0
import Derived.Test.YtcbhaoaameiacaaDoorXx3
namespace Go.Proofs.YtcbhaoaameiacaaDoor.X
open Go.RowKit Go.Proofs.YtcbhaoaameiacaaDoorW.PrintWords Go.Proofs.YtcbhaoaameiacaaDoorW.PrintLast Go.Proofs.YtcbhaoaameiacaaDoorW.PrintMore
attribute [local go_sem] max2_int min2_int max_two min_two max_three min_three max_four min_four   -- for this text's walks alone
set_option linter.unusedVariables false
set_option linter.unusedSimpArgs false

/-! ### slices_swapRangeCmpFunc_int: function 76 -/
-- by hand: slices.swapRangeCmpFunc[int]
section
open Go.Sort (putRow Holds putCells mapBlock swp)
section
variable {α : Type} [Inhabited α]
/-- The row holds this list. -/
abbrev LRow (enc : α → Value) (w : World) (blk : Nat) (l : List α) : World := putRow enc w blk 0 l.toArray
theorem lrow_cell (enc : α → Value) (w : World) (blk : Nat) (l0 l : List α) (hH : Holds enc w blk 0 l0.toArray) (hs : l.length = l0.length) (k : Nat) (hk : k < l.length) :
    (LRow enc w blk l).cell? ⟨blk, k, none⟩ = some (enc l[k]) ∧ (LRow enc w blk l).frozen? ⟨blk, k, none⟩ = false := by
  have h := Go.Sort.holds_putRow enc w blk 0 l0.toArray l.toArray hH (by simpa using hs) k (by simpa using hk)
  rw [Nat.zero_add] at h
  refine ⟨?_, h.2⟩
  rw [h.1]
  simp [hk]
theorem lrow_set (enc : α → Value) (w : World) (blk : Nat) (l : List α) (k : Nat) (x : α) (hk : k < l.length) : (LRow enc w blk l).setCell ⟨blk, k, none⟩ (enc x) = LRow enc w blk (l.set k x) := by
  have h := Go.Sort.putRow_set enc w blk 0 l.toArray k x (by simpa using hk)
  rw [Nat.zero_add] at h
  unfold LRow
  rw [h]
  simp
end
theorem set_mid {β : Type} (a : List β) (c v : β) (b : List β) (k : Nat) (hk : k = a.length) : (a ++ c :: b).set k v = a ++ v :: b := by
  subst hk
  rw [List.set_append_right _ _ (Nat.le_refl _), Nat.sub_self, List.set_cons_zero]
theorem get_mid {β : Type} (a : List β) (c : β) (b : List β) (k : Nat) (hk : k = a.length) (h : k < (a ++ c :: b).length) : (a ++ c :: b)[k] = c := by
  subst hk
  rw [List.getElem_append_right (Nat.le_refl _)]
  simp
set_option maxHeartbeats 2000000 in
set_option maxRecDepth 100000 in
theorem swap_range {α : Type} [Inhabited α] (enc : α → Value) (hO : OneCell enc) (blk cap : Nat) (fv : Value) (p x m y q : List α) (l0 : List α) (w : World) (A B N : Nat) (hxy : x.length = y.length) (hA : A = p.length) (hB : B = p.length + x.length + m.length) (hN : N = x.length)
    (hH : Holds enc w blk 0 l0.toArray) (hs : (p ++ (x ++ (m ++ (y ++ q)))).length = l0.length) (hsz : l0.length ≤ 64) (nd : Nat) :
    Calls Tryd.prog 76 #[.slice (some ⟨blk, 0, none⟩) l0.length cap, .int .i64 A, .int .i64 B, .int .i64 N, fv] ((LRow enc w blk (p ++ (x ++ (m ++ (y ++ q))))).drewN nd) fun e w' =>
      e = .returned (.tuple #[]) ∧ ∃ n, w' = (LRow enc w blk (p ++ (y ++ (m ++ (x ++ q))))).drewN n := by
  have hcl0 := hO.cells
  simp only [Value.cells] at hcl0
  have hst := hO.store Tryd.prog
  have mixed : Tryd.prog.follows Departure.mixedOrders = true := by kernel_rfl
  simp only [List.length_append] at hs
  have HH := Lib.hid hH
  have HABN := Aside0.mk (And.intro hA (And.intro hB hN))
  have HS0 := Aside0.mk hs
  clear hH hA hB hN hs
  go_enter Tryd.func76, Tryd.ntmps76
  go_wp2_with fail
  go_loopw [10] (fun v wr => ∃ (k nn : Nat) (x1 x2 y1 y2 : List α), v = .int .i64 k ∧ x1.length = k ∧ y1.length = k ∧ Aside0 (x = x1 ++ x2) ∧ Aside0 (y = y1 ++ y2) ∧ wr = (LRow enc w blk (p ++ (y1 ++ (x2 ++ (m ++ (x1 ++ (y2 ++ q))))))).drewN nn) (fun v _ => N - (intOf v).toNat)
  case atStart => exact ⟨0, nd, [], x, [], y, rfl, rfl, rfl, ⟨rfl⟩, ⟨rfl⟩, rfl⟩
  case round =>
    obtain ⟨k, nn, x1, x2, y1, y2, rfl, hx1, hy1, HX, HY, rfl⟩ := hrel
    obtain ⟨hA, hB, hN⟩ := HABN.out
    have hs := HS0.out
    have lx := congrArg List.length HX.out
    have ly := congrArg List.length HY.out
    rw [List.length_append] at lx ly
    by_cases hk : k < N
    · have hkz : (k : Int) < (N : Int) := by omega
      obtain ⟨c, x3, rfl⟩ : ∃ c x3, x2 = c :: x3 := by
        cases x2 with
        | nil => simp at lx; omega
        | cons c x3 => exact ⟨c, x3, rfl⟩
      obtain ⟨e, y3, rfl⟩ : ∃ e y3, y2 = e :: y3 := by
        cases y2 with
        | nil => simp at ly; omega
        | cons e y3 => exact ⟨e, y3, rfl⟩
      rw [List.length_cons] at lx ly
      obtain ⟨i1, hi1⟩ : ∃ i1, i1 = A + k := ⟨_, rfl⟩
      obtain ⟨i2, hi2⟩ : ∃ i2, i2 = B + k := ⟨_, rfl⟩
      have hcur : (p ++ (y1 ++ (c :: x3 ++ (m ++ (x1 ++ (e :: y3 ++ q)))))).length = l0.length := by
        simp only [List.length_append, List.length_cons]
        omega
      have f1 : p ++ (y1 ++ (c :: x3 ++ (m ++ (x1 ++ (e :: y3 ++ q))))) = (p ++ y1) ++ c :: (x3 ++ (m ++ (x1 ++ (e :: y3 ++ q)))) := by simp
      have f2 : p ++ (y1 ++ (c :: x3 ++ (m ++ (x1 ++ (e :: y3 ++ q))))) = (p ++ (y1 ++ (c :: x3 ++ (m ++ x1)))) ++ e :: (y3 ++ q) := by simp
      have l1 : i1 = (p ++ y1).length := by rw [List.length_append]; omega
      have l2 : i2 = (p ++ (y1 ++ (c :: x3 ++ (m ++ x1)))).length := by simp only [List.length_append, List.length_cons]; omega
      have b1 : i1 < l0.length := by omega
      have b2 : i2 < l0.length := by omega
      have c1 := lrow_cell enc w blk l0 (p ++ (y1 ++ (c :: x3 ++ (m ++ (x1 ++ (e :: y3 ++ q)))))) HH.out hcur i1 (by omega)
      have c2 := lrow_cell enc w blk l0 (p ++ (y1 ++ (c :: x3 ++ (m ++ (x1 ++ (e :: y3 ++ q)))))) HH.out hcur i2 (by omega)
      have g1 : (p ++ (y1 ++ (c :: x3 ++ (m ++ (x1 ++ (e :: y3 ++ q))))))[i1]'(by omega) = c := by simp only [f1]; exact get_mid _ _ _ _ l1 _
      have g2 : (p ++ (y1 ++ (c :: x3 ++ (m ++ (x1 ++ (e :: y3 ++ q))))))[i2]'(by omega) = e := by simp only [f2]; exact get_mid _ _ _ _ l2 _
      rw [g1] at c1
      rw [g2] at c2
      have hfin : (((LRow enc w blk (p ++ (y1 ++ (c :: x3 ++ (m ++ (x1 ++ (e :: y3 ++ q))))))).drewN nn).setCell ⟨blk, i1, none⟩ (enc e)).setCell ⟨blk, i2, none⟩ (enc c) = (LRow enc w blk (p ++ ((y1 ++ [e]) ++ (x3 ++ (m ++ ((x1 ++ [c]) ++ (y3 ++ q))))))).drewN nn := by
        show (((LRow enc w blk _).setCell ⟨blk, i1, none⟩ (enc e)).setCell ⟨blk, i2, none⟩ (enc c)).drewN nn = _
        have e2 : (p ++ y1) ++ e :: (x3 ++ (m ++ (x1 ++ (e :: y3 ++ q)))) = (p ++ (y1 ++ (e :: x3 ++ (m ++ x1)))) ++ e :: (y3 ++ q) := by simp
        have l3 : i2 = (p ++ (y1 ++ (e :: x3 ++ (m ++ x1)))).length := by simp only [List.length_append, List.length_cons]; omega
        rw [lrow_set _ _ _ _ _ _ (by omega), f1, set_mid _ _ _ _ _ l1, lrow_set _ _ _ _ _ _ (by rw [← f1] at *; simp only [List.length_append, List.length_cons] at hcur ⊢; omega), e2, set_mid _ _ _ _ _ l3]
        simp
      have HF := Aside0.mk hfin
      have cc1 : ((LRow enc w blk (p ++ (y1 ++ (c :: x3 ++ (m ++ (x1 ++ (e :: y3 ++ q))))))).drewN nn).cell? ⟨blk, i1, none⟩ = some (enc c) := c1.1
      have cc2 : ((LRow enc w blk (p ++ (y1 ++ (c :: x3 ++ (m ++ (x1 ++ (e :: y3 ++ q))))))).drewN nn).cell? ⟨blk, i2, none⟩ = some (enc e) := c2.1
      have ff1 : ((LRow enc w blk (p ++ (y1 ++ (c :: x3 ++ (m ++ (x1 ++ (e :: y3 ++ q))))))).drewN nn).frozen? ⟨blk, i1, none⟩ = false := c1.2
      have ff2 : ((LRow enc w blk (p ++ (y1 ++ (c :: x3 ++ (m ++ (x1 ++ (e :: y3 ++ q))))))).drewN nn).frozen? ⟨blk, i2, none⟩ = false := c2.2
      have hwa : IntKind.i64.wrap ((A : Int) + (k : Int)) = (i1 : Int) := by rw [wrap_i64 _ (by omega) (by omega)]; omega
      have hwb : IntKind.i64.wrap ((B : Int) + (k : Int)) = (i2 : Int) := by rw [wrap_i64 _ (by omega) (by omega)]; omega
      have z1 : (i1 : Int) < (l0.length : Int) := by omega
      have z2 : (i2 : Int) < (l0.length : Int) := by omega
      have hne12 : (⟨blk, i1, none⟩ : Addr) ≠ ⟨blk, i2, none⟩ := by intro h; injection h; omega
      have HX2 : Aside0 (x1 ++ c :: x3 = (x1 ++ [c]) ++ x3) := ⟨by simp⟩
      have HY2 : Aside0 (y1 ++ e :: y3 = (y1 ++ [e]) ++ y3) := ⟨by simp⟩
      have nx : (x1 ++ [c]).length = k + 1 := by rw [List.length_append]; simp; omega
      have ny : (y1 ++ [e]).length = k + 1 := by rw [List.length_append]; simp; omega
      have HXX := Aside0.mk (HX.out.trans HX2.out)
      have HYY := Aside0.mk (HY.out.trans HY2.out)
      have JJ1 := Aside0.mk hi1
      have JJ2 := Aside0.mk hi2
      have LEN := Aside0.mk (show k < N from hk)
      have hkb : k < 64 := by omega
      have NXY := Aside0.mk (And.intro nx ny)
      clear c1 c2 g1 g2 f1 f2 l1 l2 hcur HX HY HX2 HY2 hfin nx ny hi1 hi2 lx ly hx1 hy1 hA hB hN hs
      generalize (LRow enc w blk (p ++ (y1 ++ (c :: x3 ++ (m ++ (x1 ++ (e :: y3 ++ q))))))).drewN nn = W at HF cc1 cc2 ff1 ff2 ⊢
      have ff3 : (W.setCell ⟨blk, i1, none⟩ (enc e)).frozen? ⟨blk, i2, none⟩ = false := (World.frozen?_setCell ..).trans ff2
      have cc3 : (W.setCell ⟨blk, i1, none⟩ (enc e)).cell? ⟨blk, i2, none⟩ = some (enc e) := (World.cell?_setCell_other (h := hne12) ..).trans cc2
      clear hne12
      go_wp2_with fail
      go_big_region_o
      all_goals go_wp2
      go_roundw
      case rel => exact ⟨k + 1, nn + 1, x1 ++ [c], x3, y1 ++ [e], y3, by go_num, NXY.out.1, NXY.out.2, HXX, HYY, by rw [HF.out]; rfl⟩
      case measure => have := LEN.out; simp [intOf]; omega
    · have hkn : k = N := by
        omega
      have e1 : x2 = [] := List.eq_nil_of_length_eq_zero (by omega)
      have e2 : y2 = [] := List.eq_nil_of_length_eq_zero (by omega)
      subst e1 e2
      have hkz : ¬ (k : Int) < (N : Int) := by omega
      have hx' := HX.out
      have hy' := HY.out
      rw [List.append_nil] at hx' hy'
      subst hx' hy'
      clear hkn hx1 hy1 lx ly hA hB hN hs hk HX HY
      go_wp2
      go_end0
      exact ⟨rfl, nn, by simp⟩
theorem swap_range' {α : Type} [Inhabited α] (enc : α → Value) (hO : OneCell enc) (blk cap : Nat) (fv : Value) (p x m y q cur : List α) (l0 : List α) (w : World) (A B N : Nat) (hcur : cur = p ++ (x ++ (m ++ (y ++ q)))) (hxy : x.length = y.length) (hA : A = p.length) (hB : B = p.length + x.length + m.length) (hN : N = x.length)
    (hH : Holds enc w blk 0 l0.toArray) (hs : cur.length = l0.length) (hsz : l0.length ≤ 64) (nd : Nat) :
    Calls Tryd.prog 76 #[.slice (some ⟨blk, 0, none⟩) l0.length cap, .int .i64 A, .int .i64 B, .int .i64 N, fv] ((LRow enc w blk cur).drewN nd) fun e w' =>
      e = .returned (.tuple #[]) ∧ ∃ n, w' = (LRow enc w blk (p ++ (y ++ (m ++ (x ++ q))))).drewN n := by
  subst hcur
  exact swap_range enc hO blk cap fv p x m y q l0 w A B N hxy hA hB hN hH hs hsz nd
set_option maxHeartbeats 2000000 in
set_option maxRecDepth 100000 in
theorem rotate_ok {α : Type} [Inhabited α] (enc : α → Value) (hO : OneCell enc) (blk cap : Nat) (fv : Value) (p a b q cur : List α) (l0 : List α) (w : World) (A M B : Nat) (hcur : cur = p ++ (a ++ (b ++ q))) (ha : 1 ≤ a.length) (hb : 1 ≤ b.length) (hA : A = p.length) (hM : M = p.length + a.length) (hB : B = p.length + a.length + b.length)
    (hH : Holds enc w blk 0 l0.toArray) (hs : cur.length = l0.length) (hsz : l0.length ≤ 64) (nd : Nat) :
    Calls Tryd.prog 64 #[.slice (some ⟨blk, 0, none⟩) l0.length cap, .int .i64 A, .int .i64 M, .int .i64 B, fv] ((LRow enc w blk cur).drewN nd) fun e w' =>
      e = .returned (.tuple #[]) ∧ ∃ n, w' = (LRow enc w blk (p ++ (b ++ (a ++ q)))).drewN n := by
  have mixed : Tryd.prog.follows Departure.mixedOrders = true := by kernel_rfl
  subst hcur
  have hlen := hs
  simp only [List.length_append] at hlen
  have HH := Lib.hid hH
  have w1 := wrap_i64 ((M : Int) - (A : Int)) (by omega) (by omega)
  have w2 := wrap_i64 ((B : Int) - (M : Int)) (by omega) (by omega)
  have z1 : (M : Int) - (A : Int) = (a.length : Int) := by omega
  have z2 : (B : Int) - (M : Int) = (b.length : Int) := by omega
  rw [z1] at w1
  rw [z2] at w2
  obtain ⟨i0, hi0⟩ : ∃ i0, a.length = i0 := ⟨_, rfl⟩
  obtain ⟨j0, hj0⟩ : ∃ j0, b.length = j0 := ⟨_, rfl⟩
  have x1 : IntKind.i64.wrap ((M : Int) - (A : Int)) = (i0 : Int) := by rw [z1, w1, hi0]
  have x2 : IntKind.i64.wrap ((B : Int) - (M : Int)) = (j0 : Int) := by rw [z2, w2, hj0]
  have HF := Aside0.mk (And.intro hi0 (And.intro hj0 (And.intro hM (And.intro hlen (And.intro ha hb)))))
  have HS := Aside0.mk hs
  clear w1 w2 z1 z2 hi0 hj0 hA hM hB hlen ha hb hs hH
  go_enter Tryd.func64, Tryd.ntmps64
  go_wp2_with fail
  clear x1 x2
  go_loopw [10, 11] (fun u v wr => ∃ (i j nn : Nat) (P X Y Q : List α), u = .int .i64 i ∧ v = .int .i64 j ∧ Aside0 (X.length = i ∧ Y.length = j ∧ 1 ≤ i ∧ 1 ≤ j ∧ M = P.length + i) ∧ Aside0 (P ++ (Y ++ (X ++ Q)) = p ++ (b ++ (a ++ q))) ∧ Aside0 ((P ++ (X ++ (Y ++ Q))).length = l0.length) ∧ wr = (LRow enc w blk (P ++ (X ++ (Y ++ Q)))).drewN nn) (fun u v _ => (intOf u).toNat + (intOf v).toNat)
  case atStart =>
    obtain ⟨hi0, hj0, hM, hlen, ha, hb⟩ := HF.out
    exact ⟨i0, j0, nd, p, a, b, q, rfl, rfl, ⟨hi0, hj0, by omega, by omega, by omega⟩, ⟨rfl⟩, HS, rfl⟩
  case round =>
    clear HF HS
    obtain ⟨i, j, nn, P, X, Y, Q, rfl, rfl, HD, HT, HL, rfl⟩ := hrel
    obtain ⟨hX, hY, hi, hj, hM⟩ := HD.out
    have hL := HL.out
    have hL2 := HL.out
    simp only [List.length_append] at hL
    have hwm := wrap_i64 ((M : Int) - (i : Int)) (by omega) (by omega)
    have hzm : (M : Int) - (i : Int) = (P.length : Int) := by omega
    obtain ⟨A1, hA1⟩ : ∃ A1, P.length = A1 := ⟨_, rfl⟩
    have xm : IntKind.i64.wrap ((M : Int) - (i : Int)) = (A1 : Int) := by rw [hwm, hzm, hA1]
    clear hwm hzm
    by_cases hij : i = j
    · have hc := swap_range' enc hO blk cap fv P X [] Y Q (P ++ (X ++ (Y ++ Q))) l0 w A1 M i (by simp) (by omega) hA1.symm (by simp; omega) hX.symm HH.out hL2 hsz nn
      have hzz : ((i : Int) != (j : Int)) = false := by simp; omega
      have hT := HT.out
      clear hX hY hi hj hM hL hL2 hA1 HD HL
      subst hij
      go_wp2_with (go_at_call 76; refine hc.mono ?_; rintro e w1 ⟨rfl, n1, rfl⟩)
      go_end0
      exact ⟨rfl, n1, by rw [← hT]⟩
    · have hzz : ((i : Int) != (j : Int)) = true := by simp; omega
      by_cases hgt : j < i
      · have hgz : (i : Int) > (j : Int) := by omega
        have hgzb : decide ((j : Int) < (i : Int)) = true := decide_eq_true hgz
        have e1 : X = X.take j ++ X.drop j := (List.take_append_drop _ _).symm
        have l1 : (X.take j).length = j := by rw [List.length_take]; omega
        have l2 : (X.drop j).length = i - j := by rw [List.length_drop]; omega
        generalize X.take j = X1 at e1 l1
        generalize X.drop j = X2 at e1 l2
        subst e1
        have hc := swap_range' enc hO blk cap fv P X1 X2 Y Q (P ++ (X1 ++ (X2 ++ (Y ++ Q)))) l0 w A1 M j (by simp) (by omega) hA1.symm (by omega) l1.symm HH.out (by rw [← hL2]; simp) hsz nn
        have hij2 := wrap_i64 ((i : Int) - (j : Int)) (by omega) (by omega)
        obtain ⟨d, hd⟩ : ∃ d, i - j = d := ⟨_, rfl⟩
        have hsub : IntKind.i64.wrap ((i : Int) - (j : Int)) = (d : Int) := by rw [hij2]; omega
        have HD2 : Aside0 (X2.length = d ∧ X1.length = j ∧ 1 ≤ d ∧ 1 ≤ j ∧ M = (P ++ Y).length + d) := ⟨by rw [List.length_append]; omega⟩
        have HT2 : Aside0 ((P ++ Y) ++ (X1 ++ (X2 ++ Q)) = p ++ (b ++ (a ++ q))) := ⟨by rw [← HT.out]; simp⟩
        have HL2 : Aside0 (((P ++ Y) ++ (X2 ++ (X1 ++ Q))).length = l0.length) := ⟨by simp only [List.length_append] at hL ⊢; omega⟩
        have HM : Aside0 (d + j < i + j) := ⟨by omega⟩
        clear hX hY hi hj hM hL hL2 hA1 HD HL l1 l2 hij2 hd HT hij hgt
        go_wp2_with (go_at_call 76; refine hc.mono ?_; rintro e w1 ⟨rfl, n1, rfl⟩)
        go_roundw
        case rel => exact ⟨d, j, n1, P ++ Y, X2, X1, Q, rfl, rfl, HD2, HT2, HL2, by simp⟩
        case measure => have := HM.out; simp [intOf]; omega
      · have hgz : ¬ (i : Int) > (j : Int) := by omega
        have hgzb : decide ((j : Int) < (i : Int)) = false := decide_eq_false hgz
        obtain ⟨d, hd⟩ : ∃ d, j - i = d := ⟨_, rfl⟩
        have e1 : Y = Y.take d ++ Y.drop d := (List.take_append_drop _ _).symm
        have l1 : (Y.take d).length = d := by rw [List.length_take]; omega
        have l2 : (Y.drop d).length = i := by rw [List.length_drop]; omega
        generalize Y.take d = Y1 at e1 l1
        generalize Y.drop d = Y2 at e1 l2
        subst e1
        have hlt : i < j := by omega
        have hwk := wrap_i64 ((M : Int) + (j : Int)) (by omega) (by omega)
        obtain ⟨K0, hK0⟩ : ∃ K0, M + j = K0 := ⟨_, rfl⟩
        have yk : IntKind.i64.wrap ((M : Int) + (j : Int)) = (K0 : Int) := by rw [hwk]; omega
        have hwl := wrap_i64 ((K0 : Int) - (i : Int)) (by omega) (by omega)
        obtain ⟨K1, hK1⟩ : ∃ K1, K0 - i = K1 := ⟨_, rfl⟩
        have yl : IntKind.i64.wrap ((K0 : Int) - (i : Int)) = (K1 : Int) := by rw [hwl]; omega
        have hc := swap_range' enc hO blk cap fv P X Y1 Y2 Q (P ++ (X ++ (Y1 ++ (Y2 ++ Q)))) l0 w A1 K1 i (by simp) (by omega) hA1.symm (by omega) hX.symm HH.out (by rw [← hL2]; simp) hsz nn
        have hij2 := wrap_i64 ((j : Int) - (i : Int)) (by omega) (by omega)
        have hsub : IntKind.i64.wrap ((j : Int) - (i : Int)) = (d : Int) := by rw [hij2]; omega
        have HD2 : Aside0 (Y2.length = i ∧ Y1.length = d ∧ 1 ≤ i ∧ 1 ≤ d ∧ M = P.length + i) := ⟨by omega⟩
        have HT2 : Aside0 (P ++ (Y1 ++ (Y2 ++ (X ++ Q))) = p ++ (b ++ (a ++ q))) := ⟨by rw [← HT.out]; simp⟩
        have HL2 : Aside0 ((P ++ (Y2 ++ (Y1 ++ (X ++ Q)))).length = l0.length) := ⟨by simp only [List.length_append] at hL ⊢; omega⟩
        have HM : Aside0 (i + d < i + j) := ⟨by omega⟩
        clear hX hY hi hj hM hL hL2 hA1 HD HL l1 l2 hij2 hd HT hij hgt hlt hK0 hK1 hwk hwl
        go_wp2_with (go_at_call 76; refine hc.mono ?_; rintro e w1 ⟨rfl, n1, rfl⟩)
        go_roundw
        case rel => exact ⟨i, d, n1, P, Y2, Y1, X ++ Q, rfl, rfl, HD2, HT2, HL2, rfl⟩
        case measure => have := HM.out; simp [intOf]; omega
theorem place {β : Type} (lt : β → β → Prop) (r1 r2 : List β) (x : β) (hr : (r1 ++ r2).Pairwise lt) (h1 : ∀ t (h : t < (r1 ++ r2).length), t < r1.length → lt (r1 ++ r2)[t] x) (h2 : ∀ t (h : t < (r1 ++ r2).length), r1.length ≤ t → lt x (r1 ++ r2)[t]) : (r1 ++ x :: r2).Pairwise lt := by
  rw [List.pairwise_append] at hr ⊢
  obtain ⟨ha, hb, hc⟩ := hr
  have k2 : ∀ y ∈ r2, lt x y := by
    intro y hy
    obtain ⟨t, ht, rfl⟩ := List.getElem_of_mem hy
    have := h2 (r1.length + t) (by rw [List.length_append]; omega) (by omega)
    rwa [List.getElem_append_right (by omega), getElem_congr_idx (show r1.length + t - r1.length = t by omega)] at this
  have k1 : ∀ y ∈ r1, lt y x := by
    intro y hy
    obtain ⟨t, ht, rfl⟩ := List.getElem_of_mem hy
    have := h1 t (by rw [List.length_append]; omega) ht
    rwa [List.getElem_append_left ht] at this
  refine ⟨ha, List.pairwise_cons.mpr ⟨k2, hb⟩, ?_⟩
  intro y hy z hz
  rcases List.mem_cons.mp hz with rfl | hz
  · exact k1 y hy
  · exact hc y hy z hz
theorem less_is (i : Nat) (h : 1 ≤ i) (h2 : i ≤ 1000) : IntKind.i64.wrap ((i : Int) - 1) = ((i - 1 : Nat) : Int) ∧ wrap64 ((i : Int) - 1) = ((i - 1 : Nat) : Int) := by
  constructor
  · rw [wrap_i64 _ (by omega) (by omega)]; omega
  · unfold wrap64; omega
theorem more_is (i : Nat) (h2 : i ≤ 1000) : IntKind.i64.wrap ((i : Int) + 1) = ((i + 1 : Nat) : Int) ∧ wrap64 ((i : Int) + 1) = ((i + 1 : Nat) : Int) := by
  constructor
  · rw [wrap_i64 _ (by omega) (by omega)]; omega
  · unfold wrap64; omega
/-- Two neighbours of the row are exchanged. -/
theorem swap_next {α : Type} [Inhabited α] (enc : α → Value) (blk : Nat) (a b : List α) (x c : α) (w : World) (k nn : Nat) (hk : k = a.length) :
    (((LRow enc w blk (a ++ x :: c :: b)).drewN nn).setCell ⟨blk, k, none⟩ (enc c)).setCell ⟨blk, k + 1, none⟩ (enc x) = (LRow enc w blk (a ++ c :: x :: b)).drewN nn := by
  show (((LRow enc w blk _).setCell ⟨blk, k, none⟩ (enc c)).setCell ⟨blk, k + 1, none⟩ (enc x)).drewN nn = _
  rw [lrow_set _ _ _ _ _ _ (by simp; omega), set_mid _ _ _ _ _ hk]
  have e : a ++ c :: c :: b = (a ++ [c]) ++ c :: b := by simp
  rw [e, lrow_set _ _ _ _ _ _ (by simp; omega), set_mid _ _ _ _ _ (by simp; omega)]
  simp
theorem swap_prev {α : Type} [Inhabited α] (enc : α → Value) (blk : Nat) (a b : List α) (x c : α) (w : World) (k nn : Nat) (hk : k = a.length) :
    (((LRow enc w blk (a ++ c :: x :: b)).drewN nn).setCell ⟨blk, k + 1, none⟩ (enc c)).setCell ⟨blk, k, none⟩ (enc x) = (LRow enc w blk (a ++ x :: c :: b)).drewN nn := by
  show (((LRow enc w blk _).setCell ⟨blk, k + 1, none⟩ (enc c)).setCell ⟨blk, k, none⟩ (enc x)).drewN nn = _
  have e : a ++ c :: x :: b = (a ++ [c]) ++ x :: b := by simp
  rw [e, lrow_set _ _ _ _ _ _ (by simp; omega), set_mid _ _ _ _ _ (by simp; omega)]
  have e2 : (a ++ [c]) ++ c :: b = a ++ c :: c :: b := by simp
  rw [e2, lrow_set _ _ _ _ _ _ (by simp; omega), set_mid _ _ _ _ _ hk]
/-- What is asked of the comparison: at every content of the row. -/
theorem cur_at1 {β : Type} (p r q : List β) (x : β) (t : Nat) (ht : t < r.length) (h : p.length + 1 + t < (p ++ (x :: (r ++ q))).length) : (p ++ (x :: (r ++ q)))[p.length + 1 + t] = r[t] := by
  rw [List.getElem_append_right (by omega)]
  have e : p.length + 1 + t - p.length = t + 1 := by omega
  simp only [e, List.getElem_cons_succ]
  rw [List.getElem_append_left ht]
def CmpRow {α : Type} [Inhabited α] (g : Nat) (cb : Array Value) (enc : α → Value) (cf : α → α → Int) (blk : Nat) (w : World) : Prop :=
  ∀ (l : List α) (nd : Nat) (x y : α), Calls Tryd.prog g (#[enc x, enc y] ++ cb) ((LRow enc w blk l).drewN nd) fun e w' => e = .returned (.int .i64 (cf x y)) ∧ ∃ q, w' = ((LRow enc w blk l).drewN nd).drewN q
theorem half_eq (i j : Nat) (h : i + j ≤ 1000) : IntKind.i64.wrap ((i : Int) + (j : Int)) = ((i + j : Nat) : Int) := by rw [wrap_i64 _ (by omega) (by omega)]; omega
theorem half_is (i j s h0 : Nat) (hs : i + j = s) (hh : s / 2 = h0) (h : i + j ≤ 1000) : IntKind.i64.wrap ((i : Int) + (j : Int)) = (s : Int) ∧ wrap64 (IntKind.u64.wrap (s : Int) / 2) = (h0 : Int) := by
  refine ⟨by rw [wrap_i64 _ (by omega) (by omega)]; omega, ?_⟩
  rw [IntKind.wrap_u64]
  unfold wrap64
  omega
set_option maxHeartbeats 4000000 in
set_option maxRecDepth 100000 in
theorem sym_one {α : Type} [Inhabited α] (enc : α → Value) (hO : OneCell enc) (cf : α → α → Int) (lt : α → α → Prop) (g : Nat) (cb : Array Value) (blk cap : Nat) (p r q cur : List α) (x : α) (l0 : List α) (w : World) (A M B : Nat) (hcur : cur = p ++ (x :: (r ++ q))) (hA : A = p.length) (hM : M = p.length + 1) (hB : B = p.length + 1 + r.length)
    (eg : ∀ args w, (callFunc g args).run Tryd.prog w = .ok (.enter g args) w) (hcmp : CmpRow g cb enc cf blk w)
    (hlt : ∀ y ∈ r, (cf y x < 0 → lt y x) ∧ (¬ cf y x < 0 → lt x y)) (hr : r.Pairwise lt) (htr : ∀ a b c, lt a b → lt b c → lt a c) (hb : 1 ≤ r.length)
    (hH : Holds enc w blk 0 l0.toArray) (hs : cur.length = l0.length) (hsz : l0.length ≤ 64) (nd : Nat) :
    Calls Tryd.prog 55 #[.slice (some ⟨blk, 0, none⟩) l0.length cap, .int .i64 A, .int .i64 M, .int .i64 B, .func (.func g) #[] cb] ((LRow enc w blk cur).drewN nd) fun e w' =>
      e = .returned (.tuple #[]) ∧ ∃ (n : Nat) (z : List α), z.Perm (x :: r) ∧ z.Pairwise lt ∧ w' = (LRow enc w blk (p ++ (z ++ q))).drewN n := by
  have mixed : Tryd.prog.follows Departure.mixedOrders = true := by kernel_rfl
  have hcl0 := hO.cells
  simp only [Value.cells] at hcl0
  have hst := hO.store Tryd.prog
  have hlen := hs
  rw [hcur] at hlen
  simp only [List.length_append, List.length_cons] at hlen
  have HH := Lib.hid hH
  have HC := Lib.hid hcmp
  have hma : IntKind.i64.wrap ((M : Int) - (A : Int)) = 1 := by rw [wrap_i64 _ (by omega) (by omega)]; omega
  have HF := Aside0.mk (And.intro hA (And.intro hM (And.intro hB (And.intro hlen hb))))
  have HS := Aside0.mk (And.intro hs hcur)
  have HLT := Aside0.mk hlt
  clear hA hM hB hlen hb hs hcur hlt hH hcmp
  go_enter Tryd.func55, Tryd.ntmps55
  go_wp2_with fail
  clear hma
  go_loopw [10, 11] (fun u v wr => ∃ (i j nn : Nat), u = .int .i64 i ∧ v = .int .i64 j ∧ Aside0 (M ≤ i ∧ i ≤ j ∧ j ≤ B ∧ (∀ t (h : t < r.length), t < i - M → lt r[t] x) ∧ (∀ t (h : t < r.length), j - M ≤ t → lt x r[t])) ∧ wr = (LRow enc w blk cur).drewN nn) (fun u v _ => (intOf v).toNat - (intOf u).toNat)
  case atStart =>
    obtain ⟨hA, hM, hB, hlen, hb⟩ := HF.out
    exact ⟨M, B, nd, rfl, rfl, ⟨Nat.le_refl _, by omega, Nat.le_refl _, fun t h ht => by omega, fun t h ht => by omega⟩, rfl⟩
  case round =>
    obtain ⟨i, j, nn, rfl, rfl, HD, rfl⟩ := hrel
    obtain ⟨hA, hM, hB, hlen, hb⟩ := HF.out
    obtain ⟨hi, hij, hj, hlo, hhi⟩ := HD.out
    by_cases hlt : i < j
    · have hltz : (i : Int) < (j : Int) := by omega
      obtain ⟨s, hs⟩ : ∃ s, i + j = s := ⟨_, rfl⟩
      obtain ⟨h0, hh0⟩ : ∃ h0, s / 2 = h0 := ⟨_, rfl⟩
      have HSUM := Aside0.mk (half_is i j s h0 hs hh0 (by omega))
      obtain ⟨hcl, hcur⟩ := HS.out
      have ht : h0 - M < r.length := by omega
      have hb0 : h0 < l0.length := by omega
      have hbA : A < l0.length := by omega
      have g1 : cur[h0]'(by omega) = r[h0 - M] := by
        have := cur_at1 p r q x (h0 - M) ht (by rw [← hcur]; omega)
        simp only [hcur]
        have e : h0 = p.length + 1 + (h0 - M) := by omega
        conv => lhs; rw [getElem_congr_idx e]
        exact this
      have g2 : cur[A]'(by omega) = x := by simp only [hcur]; exact get_mid _ _ _ _ hA _
      obtain ⟨rt, hrt⟩ : ∃ rt, r[h0 - M] = rt := ⟨_, rfl⟩
      have c1 := lrow_cell enc w blk l0 cur HH.out hcl h0 (by omega)
      have c2 := lrow_cell enc w blk l0 cur HH.out hcl A (by omega)
      rw [g1, hrt] at c1
      rw [g2] at c2
      have hmem : rt ∈ r := by rw [← hrt]; exact List.getElem_mem ht
      have hL := HLT.out rt hmem
      have hc : ∀ n, Calls Tryd.prog g (#[enc rt, enc x] ++ cb) (((LRow enc w blk cur).drewN nn).drewN n) fun e w' => e = .returned (.int .i64 (cf rt x)) ∧ ∃ q, w' = (((LRow enc w blk cur).drewN nn).drewN n).drewN q := fun n => by
        have := HC.out cur (nn + n) rt x
        rw [← World.drewN_drewN] at this
        exact this
      have cc1 : ((LRow enc w blk cur).drewN nn).cell? ⟨blk, h0, none⟩ = some (enc rt) := c1.1
      have cc2 : ((LRow enc w blk cur).drewN nn).cell? ⟨blk, A, none⟩ = some (enc x) := c2.1
      have z1 : (h0 : Int) < (l0.length : Int) := by omega
      have z2 : (A : Int) < (l0.length : Int) := by omega
      have hup : Aside0 (cf rt x < 0 → M ≤ h0 + 1 ∧ h0 + 1 ≤ j ∧ j ≤ B ∧ (∀ t (h : t < r.length), t < h0 + 1 - M → lt r[t] x) ∧ (∀ t (h : t < r.length), j - M ≤ t → lt x r[t])) := ⟨fun hv => ⟨by omega, by omega, hj, fun t h h1 => by
        by_cases e : t = h0 - M
        · subst e; rw [hrt]; exact hL.1 hv
        · have h2 : lt r[t] r[h0 - M] := List.pairwise_iff_getElem.mp hr t (h0 - M) h ht (by omega)
          rw [hrt] at h2
          exact htr _ _ _ h2 (hL.1 hv), hhi⟩⟩
      have hdn : Aside0 (¬ cf rt x < 0 → M ≤ i ∧ i ≤ h0 ∧ h0 ≤ B ∧ (∀ t (h : t < r.length), t < i - M → lt r[t] x) ∧ (∀ t (h : t < r.length), h0 - M ≤ t → lt x r[t])) := ⟨fun hv => ⟨hi, by omega, by omega, hlo, fun t h h1 => by
        by_cases e : t = h0 - M
        · subst e; rw [hrt]; exact hL.2 (by omega)
        · have h2 : lt r[h0 - M] r[t] := List.pairwise_iff_getElem.mp hr (h0 - M) t ht h (by omega)
          rw [hrt] at h2
          exact htr _ _ _ (hL.2 (by omega)) h2⟩⟩
      have hms : Aside0 (j - (h0 + 1) < j - i ∧ h0 - i < j - i ∧ h0 < 64) := ⟨by omega⟩
      have h64 : h0 < 64 := by omega
      clear hA hM hB hlen hb hi hij hj hlo hhi c1 c2 g1 g2 hrt hmem hL ht hcl hcur hs hh0
      generalize hwq : (LRow enc w blk cur).drewN nn = W at cc1 cc2 hc ⊢
      have HWQ := Aside0.mk hwq
      clear hwq
      obtain ⟨hsum, hhf⟩ := HSUM.out
      by_cases hlv : cf rt x < 0
      · go_wp2_with fail
        go_quiet_o (first | (go_at_fn g; refine Calls.quiet_of (hc _)))
        go_wp2
        go_roundw
        case rel => exact ⟨h0 + 1, j, nn + nq, by go_num, rfl, ⟨hup.out hlv⟩, by rw [← HWQ.out, World.drewN_drewN]⟩
        case measure => have := hms.out; simp [intOf]; omega
      · go_wp2_with fail
        go_quiet_o (first | (go_at_fn g; refine Calls.quiet_of (hc _)))
        go_wp2
        go_roundw
        case rel => exact ⟨i, h0, nn + nq, rfl, rfl, ⟨hdn.out hlv⟩, by rw [← HWQ.out, World.drewN_drewN]⟩
        case measure => have := hms.out; simp [intOf]; omega
    · have hij2 : j = i := by omega
      subst hij2
      obtain ⟨hcl, hcur⟩ := HS.out
      have HLESS := Aside0.mk (less_is j (by omega) (by omega))
      obtain ⟨i1, hi1⟩ : ∃ i1, j - 1 = i1 := ⟨_, rfl⟩
      rw [hi1] at HLESS
      have hlz : ¬ (j : Int) < (j : Int) := by omega
      have HJ := Aside0.mk (And.intro hi (And.intro hj hi1))
      clear hij hlt hA hM hB hlen hb hi hj hi1 hlo hhi
      subst hcur
      go_wp2_with fail
      go_loopw [13] (fun u wr => ∃ (k nn : Nat) (r1 r2 : List α), u = .int .i64 k ∧ Aside0 (k = A + r1.length ∧ r = r1 ++ r2 ∧ r1.length ≤ j - M) ∧ wr = (LRow enc w blk (p ++ (r1 ++ (x :: (r2 ++ q))))).drewN nn) (fun u _ => i1 - (intOf u).toNat)
      case atStart => exact ⟨A, nn, [], r, rfl, ⟨rfl, rfl, Nat.zero_le _⟩, rfl⟩
      case round =>
        obtain ⟨k, n2, r1, r2, rfl, HR, rfl⟩ := hrel
        obtain ⟨hk, hr12, hr1⟩ := HR.out
        obtain ⟨hi, hj, hi1⟩ := HJ.out
        obtain ⟨hA, hM, hB, hlen, hb⟩ := HF.out
        have hrl := congrArg List.length hr12
        rw [List.length_append] at hrl
        by_cases hlt : k < i1
        · have hltz : (k : Int) < (i1 : Int) := by omega
          obtain ⟨c, r3, rfl⟩ : ∃ c r3, r2 = c :: r3 := by
            cases r2 with
            | nil => rw [List.length_nil] at hrl; omega
            | cons c r3 => exact ⟨c, r3, rfl⟩
          have f1 : p ++ (r1 ++ (x :: (c :: r3 ++ q))) = (p ++ r1) ++ x :: c :: (r3 ++ q) := by simp
          have f2 : p ++ (r1 ++ (x :: (c :: r3 ++ q))) = (p ++ r1 ++ [x]) ++ c :: (r3 ++ q) := by simp
          have hcl2 : (p ++ (r1 ++ (x :: (c :: r3 ++ q)))).length = l0.length := by
            rw [← hcl]
            simp only [List.length_append, List.length_cons, hr12]
            omega
          have hll := hcl2
          simp only [List.length_append, List.length_cons] at hll
          have l1 : k = (p ++ r1).length := by rw [List.length_append]; omega
          have l2 : k + 1 = (p ++ r1 ++ [x]).length := by simp only [List.length_append, List.length_cons, List.length_nil]; omega
          have c1 := lrow_cell enc w blk l0 _ HH.out hcl2 k (by omega)
          have c2 := lrow_cell enc w blk l0 _ HH.out hcl2 (k + 1) (by omega)
          have g1 : (p ++ (r1 ++ (x :: (c :: r3 ++ q))))[k]'(by omega) = x := by simp only [f1]; exact get_mid _ _ _ _ l1 _
          have g2 : (p ++ (r1 ++ (x :: (c :: r3 ++ q))))[k + 1]'(by omega) = c := by simp only [f2]; exact get_mid _ _ _ _ l2 _
          rw [g1] at c1
          rw [g2] at c2
          have hfin := swap_next enc blk (p ++ r1) (r3 ++ q) x c w k n2 l1
          rw [← f1] at hfin
          have f3 : p ++ r1 ++ c :: x :: (r3 ++ q) = p ++ ((r1 ++ [c]) ++ (x :: (r3 ++ q))) := by simp
          rw [f3] at hfin
          have HF2 := Aside0.mk hfin
          have HR2 : Aside0 (k + 1 = A + (r1 ++ [c]).length ∧ r = (r1 ++ [c]) ++ r3 ∧ (r1 ++ [c]).length ≤ j - M) := ⟨by
            rw [List.length_append, List.length_singleton]
            refine ⟨by omega, by rw [hr12]; simp, by omega⟩⟩
          have HMORE := Aside0.mk (more_is k (by omega))
          obtain ⟨k1, hk1⟩ : ∃ k1, k + 1 = k1 := ⟨_, rfl⟩
          have hne12 : (⟨blk, k, none⟩ : Addr) ≠ ⟨blk, k1, none⟩ := by intro h; injection h; omega
          have z1 : (k : Int) < (l0.length : Int) := by omega
          have z2 : (k1 : Int) < (l0.length : Int) := by omega
          have HMS : Aside0 (i1 - k1 < i1 - k) := ⟨by omega⟩
          rw [hk1] at HMORE c2 HF2 HR2
          have cc1 : ((LRow enc w blk (p ++ (r1 ++ (x :: (c :: r3 ++ q))))).drewN n2).cell? ⟨blk, k, none⟩ = some (enc x) := c1.1
          have cc2 : ((LRow enc w blk (p ++ (r1 ++ (x :: (c :: r3 ++ q))))).drewN n2).cell? ⟨blk, k1, none⟩ = some (enc c) := c2.1
          have ff1 : ((LRow enc w blk (p ++ (r1 ++ (x :: (c :: r3 ++ q))))).drewN n2).frozen? ⟨blk, k, none⟩ = false := c1.2
          have ff2 : ((LRow enc w blk (p ++ (r1 ++ (x :: (c :: r3 ++ q))))).drewN n2).frozen? ⟨blk, k1, none⟩ = false := c2.2
          obtain ⟨hm1, hm2⟩ := HMORE.out
          obtain ⟨hs1, hs2⟩ := HLESS.out
          clear c1 c2 g1 g2 f1 f2 f3 hfin l1 l2 hcl2 hll hrl hk hr12 hr1 hi hj hi1 hA hM hB hlen hb hk1 hcl HR
          generalize (LRow enc w blk (p ++ (r1 ++ (x :: (c :: r3 ++ q))))).drewN n2 = W at HF2 cc1 cc2 ff1 ff2 ⊢
          have ff3 : (W.setCell ⟨blk, k, none⟩ (enc c)).frozen? ⟨blk, k1, none⟩ = false := (World.frozen?_setCell ..).trans ff2
          have cc3 : (W.setCell ⟨blk, k, none⟩ (enc c)).cell? ⟨blk, k1, none⟩ = some (enc c) := (World.cell?_setCell_other (h := hne12) ..).trans cc2
          clear hne12
          go_wp2_with fail
          go_big_region_o
          all_goals go_wp2
          go_roundw
          case rel => exact ⟨k1, n2 + 1, r1 ++ [c], r3, rfl, HR2, by rw [HF2.out]; rfl⟩
          case measure => have := HMS.out; simp [intOf]; omega
        · have hkz : ¬ (k : Int) < (i1 : Int) := by omega
          have hd := HD.out
          have hfin : (r1 ++ x :: r2).Perm (x :: r) ∧ (r1 ++ x :: r2).Pairwise lt := by
            have hrk : r1.length = j - M := by omega
            rw [hr12]
            refine ⟨List.perm_middle, ?_⟩
            subst hr12
            exact place lt r1 r2 x hr (fun t h ht => hd.2.2.2.1 t h (by omega)) (fun t h ht => hd.2.2.2.2 t h (by omega))
          have HFIN := Aside0.mk hfin
          obtain ⟨hs1, hs2⟩ := HLESS.out
          clear hrl hk hr12 hr1 hi hj hi1 hA hM hB hlen hb hcl hd hfin HR
          go_wp2
          (try simp only [Exit.inBlock, Exit.then])
          refine bodyPost_ret (results_none rfl _ _ _) rfl ?_
          exact ⟨rfl, n2, r1 ++ x :: r2, HFIN.out.1, HFIN.out.2, by simp⟩
set_option maxHeartbeats 4000000 in
set_option maxRecDepth 100000 in
theorem sym_last {α : Type} [Inhabited α] (enc : α → Value) (hO : OneCell enc) (cf : α → α → Int) (lt : α → α → Prop) (g : Nat) (cb : Array Value) (blk cap : Nat) (p r q cur : List α) (x : α) (l0 : List α) (w : World) (A M B : Nat) (hcur : cur = p ++ (r ++ (x :: q))) (hA : A = p.length) (hM : M = p.length + r.length) (hB : B = p.length + r.length + 1)
    (eg : ∀ args w, (callFunc g args).run Tryd.prog w = .ok (.enter g args) w) (hcmp : CmpRow g cb enc cf blk w)
    (hlt : ∀ y ∈ r, (cf x y < 0 → lt x y) ∧ (¬ cf x y < 0 → lt y x)) (hr : r.Pairwise lt) (htr : ∀ a b c, lt a b → lt b c → lt a c) (hb : 2 ≤ r.length)
    (hH : Holds enc w blk 0 l0.toArray) (hs : cur.length = l0.length) (hsz : l0.length ≤ 64) (nd : Nat) :
    Calls Tryd.prog 55 #[.slice (some ⟨blk, 0, none⟩) l0.length cap, .int .i64 A, .int .i64 M, .int .i64 B, .func (.func g) #[] cb] ((LRow enc w blk cur).drewN nd) fun e w' =>
      e = .returned (.tuple #[]) ∧ ∃ (n : Nat) (z : List α), z.Perm (x :: r) ∧ z.Pairwise lt ∧ w' = (LRow enc w blk (p ++ (z ++ q))).drewN n := by
  have mixed : Tryd.prog.follows Departure.mixedOrders = true := by kernel_rfl
  have hcl0 := hO.cells
  simp only [Value.cells] at hcl0
  have hst := hO.store Tryd.prog
  have hlen := hs
  rw [hcur] at hlen
  simp only [List.length_append, List.length_cons] at hlen
  have HH := Lib.hid hH
  have HC := Lib.hid hcmp
  obtain ⟨rl, hrl⟩ : ∃ rl, r.length = rl := ⟨_, rfl⟩
  have hrb : ((rl : Int) == 1) = false := by rw [beq_eq_false_iff_ne]; omega
  have hma : IntKind.i64.wrap ((M : Int) - (A : Int)) = (rl : Int) := by rw [wrap_i64 _ (by omega) (by omega)]; omega
  have hmb : IntKind.i64.wrap ((B : Int) - (M : Int)) = 1 := by rw [wrap_i64 _ (by omega) (by omega)]; omega
  have HF := Aside0.mk (And.intro hA (And.intro hM (And.intro hB (And.intro hlen hb))))
  have HS := Aside0.mk (And.intro hs hcur)
  have HLT := Aside0.mk hlt
  clear hA hM hB hlen hb hs hcur hlt hH hcmp hrl
  go_enter Tryd.func55, Tryd.ntmps55
  go_wp2_with fail
  clear hma hmb hrb
  go_loopw [14, 15] (fun u v wr => ∃ (i j nn : Nat), u = .int .i64 i ∧ v = .int .i64 j ∧ Aside0 (A ≤ i ∧ i ≤ j ∧ j ≤ M ∧ (∀ t (h : t < r.length), t < i - A → lt r[t] x) ∧ (∀ t (h : t < r.length), j - A ≤ t → lt x r[t])) ∧ wr = (LRow enc w blk cur).drewN nn) (fun u v _ => (intOf v).toNat - (intOf u).toNat)
  case atStart =>
    obtain ⟨hA, hM, hB, hlen, hb⟩ := HF.out
    exact ⟨A, M, nd, rfl, rfl, ⟨Nat.le_refl _, by omega, Nat.le_refl _, fun t h ht => by omega, fun t h ht => by omega⟩, rfl⟩
  case round =>
    obtain ⟨i, j, nn, rfl, rfl, HD, rfl⟩ := hrel
    obtain ⟨hA, hM, hB, hlen, hb⟩ := HF.out
    obtain ⟨hi, hij, hj, hlo, hhi⟩ := HD.out
    by_cases hlt : i < j
    · have hltz : (i : Int) < (j : Int) := by omega
      obtain ⟨s, hs⟩ : ∃ s, i + j = s := ⟨_, rfl⟩
      obtain ⟨h0, hh0⟩ : ∃ h0, s / 2 = h0 := ⟨_, rfl⟩
      have HSUM := Aside0.mk (half_is i j s h0 hs hh0 (by omega))
      obtain ⟨hcl, hcur⟩ := HS.out
      have ht : h0 - A < r.length := by omega
      have hb0 : h0 < l0.length := by omega
      have hbM : M < l0.length := by omega
      have g1 : cur[h0]'(by omega) = r[h0 - A] := by
        have e : h0 = p.length + (h0 - A) := by omega
        simp only [hcur]
        conv => lhs; rw [getElem_congr_idx e]
        rw [List.getElem_append_right (by omega), getElem_congr_idx (show p.length + (h0 - A) - p.length = h0 - A by omega), List.getElem_append_left ht]
      have g2 : cur[M]'(by omega) = x := by
        have f : p ++ (r ++ (x :: q)) = (p ++ r) ++ x :: q := by simp
        simp only [hcur, f]
        exact get_mid _ _ _ _ (by rw [List.length_append]; omega) _
      obtain ⟨rt, hrt⟩ : ∃ rt, r[h0 - A] = rt := ⟨_, rfl⟩
      have c1 := lrow_cell enc w blk l0 cur HH.out hcl h0 (by omega)
      have c2 := lrow_cell enc w blk l0 cur HH.out hcl M (by omega)
      rw [g1, hrt] at c1
      rw [g2] at c2
      have hmem : rt ∈ r := by rw [← hrt]; exact List.getElem_mem ht
      have hL := HLT.out rt hmem
      have hc : ∀ n, Calls Tryd.prog g (#[enc x, enc rt] ++ cb) (((LRow enc w blk cur).drewN nn).drewN n) fun e w' => e = .returned (.int .i64 (cf x rt)) ∧ ∃ q, w' = (((LRow enc w blk cur).drewN nn).drewN n).drewN q := fun n => by
        have := HC.out cur (nn + n) x rt
        rw [← World.drewN_drewN] at this
        exact this
      have cc1 : ((LRow enc w blk cur).drewN nn).cell? ⟨blk, h0, none⟩ = some (enc rt) := c1.1
      have cc2 : ((LRow enc w blk cur).drewN nn).cell? ⟨blk, M, none⟩ = some (enc x) := c2.1
      have z1 : (h0 : Int) < (l0.length : Int) := by omega
      have z2 : (M : Int) < (l0.length : Int) := by omega
      have hup : Aside0 (¬ cf x rt < 0 → A ≤ h0 + 1 ∧ h0 + 1 ≤ j ∧ j ≤ M ∧ (∀ t (h : t < r.length), t < h0 + 1 - A → lt r[t] x) ∧ (∀ t (h : t < r.length), j - A ≤ t → lt x r[t])) := ⟨fun hv => ⟨by omega, by omega, hj, fun t h h1 => by
        by_cases e : t = h0 - A
        · subst e; rw [hrt]; exact hL.2 (by omega)
        · have h2 : lt r[t] r[h0 - A] := List.pairwise_iff_getElem.mp hr t (h0 - A) h ht (by omega)
          rw [hrt] at h2
          exact htr _ _ _ h2 (hL.2 (by omega)), hhi⟩⟩
      have hdn : Aside0 (cf x rt < 0 → A ≤ i ∧ i ≤ h0 ∧ h0 ≤ M ∧ (∀ t (h : t < r.length), t < i - A → lt r[t] x) ∧ (∀ t (h : t < r.length), h0 - A ≤ t → lt x r[t])) := ⟨fun hv => ⟨hi, by omega, by omega, hlo, fun t h h1 => by
        by_cases e : t = h0 - A
        · subst e; rw [hrt]; exact hL.1 hv
        · have h2 : lt r[h0 - A] r[t] := List.pairwise_iff_getElem.mp hr (h0 - A) t ht h (by omega)
          rw [hrt] at h2
          exact htr _ _ _ (hL.1 hv) h2⟩⟩
      have hms : Aside0 (j - (h0 + 1) < j - i ∧ h0 - i < j - i ∧ h0 < 64) := ⟨by omega⟩
      have h64 : h0 < 64 := by omega
      clear hA hM hB hlen hb hi hij hj hlo hhi c1 c2 g1 g2 hrt hmem hL ht hcl hcur hs hh0
      generalize hwq : (LRow enc w blk cur).drewN nn = W at cc1 cc2 hc ⊢
      have HWQ := Aside0.mk hwq
      clear hwq
      obtain ⟨hsum, hhf⟩ := HSUM.out
      by_cases hlv : cf x rt < 0
      · have hlvb : decide (cf x rt < 0) = true := decide_eq_true hlv
        go_wp2_with fail
        go_quiet_o (first | (go_at_fn g; refine Calls.quiet_of (hc _)))
        go_wp2
        go_roundw
        case rel => exact ⟨i, h0, nn + nq, rfl, rfl, ⟨hdn.out hlv⟩, by rw [← HWQ.out, World.drewN_drewN]⟩
        case measure => have := hms.out; simp [intOf]; omega
      · have hlvb : decide (cf x rt < 0) = false := decide_eq_false hlv
        go_wp2_with fail
        go_quiet_o (first | (go_at_fn g; refine Calls.quiet_of (hc _)))
        go_wp2
        go_roundw
        case rel => exact ⟨h0 + 1, j, nn + nq, by go_num, rfl, ⟨hup.out hlv⟩, by rw [← HWQ.out, World.drewN_drewN]⟩
        case measure => have := hms.out; simp [intOf]; omega
    · have hij2 : j = i := by omega
      subst hij2
      obtain ⟨hcl, hcur⟩ := HS.out
      have hlz : ¬ (j : Int) < (j : Int) := by omega
      have HJ := Aside0.mk (And.intro hi hj)
      clear hij hlt hA hM hB hlen hb hi hj hlo hhi
      subst hcur
      go_wp2_with fail
      go_loopw [17] (fun u wr => ∃ (k nn : Nat) (r1 r2 : List α), u = .int .i64 k ∧ Aside0 (k = A + r1.length ∧ r = r1 ++ r2 ∧ j ≤ k) ∧ wr = (LRow enc w blk (p ++ (r1 ++ (x :: (r2 ++ q))))).drewN nn) (fun u _ => (intOf u).toNat)
      case atStart =>
        obtain ⟨hA, hM, hB, hlen, hb⟩ := HF.out
        obtain ⟨hi, hj⟩ := HJ.out
        exact ⟨M, nn, r, [], rfl, ⟨by omega, by simp, hj⟩, rfl⟩
      case round =>
        obtain ⟨k, n2, r1, r2, rfl, HR, rfl⟩ := hrel
        obtain ⟨hk, hr12, hr1⟩ := HR.out
        obtain ⟨hi, hj⟩ := HJ.out
        obtain ⟨hA, hM, hB, hlen, hb⟩ := HF.out
        have hrl := congrArg List.length hr12
        rw [List.length_append] at hrl
        by_cases hlt : j < k
        · have hltz : (j : Int) < (k : Int) := by omega
          have hne : r1 ≠ [] := by
            intro e
            rw [e, List.length_nil] at hk
            omega
          obtain ⟨r0, c, rfl⟩ : ∃ r0 c, r1 = r0 ++ [c] := ⟨r1.dropLast, r1.getLast hne, (List.dropLast_concat_getLast hne).symm⟩
          rw [List.length_append, List.length_singleton] at hrl hk
          obtain ⟨k1, hk1⟩ : ∃ k1, k = k1 + 1 := ⟨k - 1, by omega⟩
          subst hk1
          have f1 : p ++ (r0 ++ [c] ++ (x :: (r2 ++ q))) = (p ++ r0) ++ c :: x :: (r2 ++ q) := by simp
          have f2 : p ++ (r0 ++ [c] ++ (x :: (r2 ++ q))) = (p ++ r0 ++ [c]) ++ x :: (r2 ++ q) := by simp
          have hcl2 : (p ++ (r0 ++ [c] ++ (x :: (r2 ++ q)))).length = l0.length := by
            rw [← hcl]
            simp only [List.length_append, List.length_cons, List.length_nil, hr12]
            omega
          have hll := hcl2
          simp only [List.length_append, List.length_cons, List.length_nil] at hll
          have l1 : k1 = (p ++ r0).length := by rw [List.length_append]; omega
          have l2 : k1 + 1 = (p ++ r0 ++ [c]).length := by simp only [List.length_append, List.length_cons, List.length_nil]; omega
          have c1 := lrow_cell enc w blk l0 _ HH.out hcl2 k1 (by omega)
          have c2 := lrow_cell enc w blk l0 _ HH.out hcl2 (k1 + 1) (by omega)
          have g1 : (p ++ (r0 ++ [c] ++ (x :: (r2 ++ q))))[k1]'(by omega) = c := by simp only [f1]; exact get_mid _ _ _ _ l1 _
          have g2 : (p ++ (r0 ++ [c] ++ (x :: (r2 ++ q))))[k1 + 1]'(by omega) = x := by simp only [f2]; exact get_mid _ _ _ _ l2 _
          rw [g1] at c1
          rw [g2] at c2
          have hfin := swap_prev enc blk (p ++ r0) (r2 ++ q) x c w k1 n2 l1
          rw [← f1] at hfin
          have f3 : p ++ r0 ++ x :: c :: (r2 ++ q) = p ++ (r0 ++ (x :: ((c :: r2) ++ q))) := by simp
          rw [f3] at hfin
          have HF2 := Aside0.mk hfin
          have HR2 : Aside0 (k1 = A + r0.length ∧ r = r0 ++ (c :: r2) ∧ j ≤ k1) := ⟨⟨by omega, by rw [hr12]; simp, by omega⟩⟩
          have HLS := Aside0.mk (less_is (k1 + 1) (by omega) (by omega))
          have hk64 : k1 < 64 := by omega
          obtain ⟨k, hk2⟩ : ∃ k, k1 + 1 = k := ⟨_, rfl⟩
          have hne12 : (⟨blk, k, none⟩ : Addr) ≠ ⟨blk, k1, none⟩ := by intro h; injection h; omega
          have z1 : (k1 : Int) < (l0.length : Int) := by omega
          have z2 : (k : Int) < (l0.length : Int) := by omega
          have HMS : Aside0 (k1 < k) := ⟨by omega⟩
          rw [Nat.add_sub_cancel, hk2] at HLS
          rw [hk2] at c2 HF2 hltz ⊢
          have cc1 : ((LRow enc w blk (p ++ (r0 ++ [c] ++ (x :: (r2 ++ q))))).drewN n2).cell? ⟨blk, k1, none⟩ = some (enc c) := c1.1
          have cc2 : ((LRow enc w blk (p ++ (r0 ++ [c] ++ (x :: (r2 ++ q))))).drewN n2).cell? ⟨blk, k, none⟩ = some (enc x) := c2.1
          have ff1 : ((LRow enc w blk (p ++ (r0 ++ [c] ++ (x :: (r2 ++ q))))).drewN n2).frozen? ⟨blk, k1, none⟩ = false := c1.2
          have ff2 : ((LRow enc w blk (p ++ (r0 ++ [c] ++ (x :: (r2 ++ q))))).drewN n2).frozen? ⟨blk, k, none⟩ = false := c2.2
          obtain ⟨hs1, hs2⟩ := HLS.out
          clear c1 c2 g1 g2 f1 f2 f3 hfin l1 l2 hcl2 hll hrl hk hr12 hr1 hi hj hA hM hB hlen hb hk2 hcl HR hne
          generalize (LRow enc w blk (p ++ (r0 ++ [c] ++ (x :: (r2 ++ q))))).drewN n2 = W at HF2 cc1 cc2 ff1 ff2 ⊢
          have ff3 : (W.setCell ⟨blk, k, none⟩ (enc c)).frozen? ⟨blk, k1, none⟩ = false := (World.frozen?_setCell ..).trans ff1
          have cc3 : (W.setCell ⟨blk, k, none⟩ (enc c)).cell? ⟨blk, k1, none⟩ = some (enc c) := (World.cell?_setCell_other (h := hne12) ..).trans cc1
          clear hne12
          go_wp2_with fail
          go_big_region_o
          all_goals go_wp2
          go_roundw
          case rel => exact ⟨k1, n2 + 1, r0, c :: r2, rfl, HR2, by rw [HF2.out]; rfl⟩
          case measure => have := HMS.out; simp [intOf]; omega
        · have hkz : ¬ (j : Int) < (k : Int) := by omega
          have hd := HD.out
          have hfin : (r1 ++ x :: r2).Perm (x :: r) ∧ (r1 ++ x :: r2).Pairwise lt := by
            have hrk : r1.length = j - A := by omega
            rw [hr12]
            refine ⟨List.perm_middle, ?_⟩
            subst hr12
            exact place lt r1 r2 x hr (fun t h ht => hd.2.2.2.1 t h (by omega)) (fun t h ht => hd.2.2.2.2 t h (by omega))
          have HFIN := Aside0.mk hfin
          clear hrl hk hr12 hr1 hi hj hA hM hB hlen hb hcl hd hfin HR
          go_wp2
          (try simp only [Exit.inBlock, Exit.then])
          refine bodyPost_ret (results_none rfl _ _ _) rfl ?_
          exact ⟨rfl, n2, r1 ++ x :: r2, HFIN.out.1, HFIN.out.2, by simp⟩
end

end Go.Proofs.YtcbhaoaameiacaaDoor.X
