-- Written by a program of mine (wip/tools/xprint.py) over the kit's print.py: printed functions and hand-proved ones side by side.
import Derived.Deep.AppendLies
import Derived.Deep.RegionLawGrows
import Derived.Lib.SlicesCompact
import Derived.Test.YthcjocojngochaaGreatDoorXx0
import Derived.Test.YthcjocojngochaaGreatDoorXx1
import Derived.Test.YthcjocojngochaaGreatDoorXx12
import Derived.Test.YthcjocojngochaaGreatDoorXx13
import Derived.Test.YthcjocojngochaaGreatDoorXx14
import Derived.Test.YthcjocojngochaaGreatDoorWSized
import Derived.Test.YthcjocojngochaaGreatDoorXx9
namespace Go.Proofs.YthcjocojngochaaGreatDoor.X
open Go.RowKit Go.Proofs.YthcjocojngochaaGreatDoorW.PrintWords Go.Proofs.YthcjocojngochaaGreatDoorW.PrintLast Go.Proofs.YthcjocojngochaaGreatDoorW.PrintMore
attribute [local go_sem] max2_int min2_int max_two min_two max_three min_three max_four min_four   -- for this text's walks alone
set_option linter.unusedVariables false
set_option linter.unusedSimpArgs false

theorem eqA26 (d : Nat) (w : World) (x0 y0 : Int) (x1 y1 : ByteArray) (x2 y2 : Int) (x3 y3 : Int) (x4 y4 : Int) (x5 y5 : Int) (x6 y6 : Bool) :
    (Op.equalIn (d + 3) 26 (.agg #[.int .i64 x0, .string x1, .int .i64 x2, .int .i64 x3, .int .i64 x4, .int .i64 x5, .bool x6]) (.agg #[.int .i64 y0, .string y1, .int .i64 y2, .int .i64 y3, .int .i64 y4, .int .i64 y5, .bool y6])).run Tryz.prog w = .ok (x0 == y0 && (x1.toList == y1.toList && (x2 == y2 && ((x3 == y3 && (x4 == y4)) && (x5 == y5 && (x6 == y6)))))) w := by
  refine eqA_of Tryz.underlying26 (by kernel_rfl) ?_
  refine eqf_cons (by rfl) (by go_simp; rfl) (by go_simp; rfl) (by go_simp) ?_
  refine eqf_cons (by rfl) (by go_simp; rfl) (by go_simp; rfl) (by go_simp) ?_
  refine eqf_cons (by rfl) (by go_simp; rfl) (by go_simp; rfl) (by go_simp) ?_
  refine eqf_cons (by rfl) (by go_simp) (by go_simp) (eqA24 (d + 0) w _ _ _ _) ?_
  refine eqf_cons (by rfl) (by go_simp; rfl) (by go_simp; rfl) (by go_simp) ?_
  exact eqf_last (by rfl) (by go_simp; rfl) (by go_simp; rfl) (by go_simp)
attribute [local go_sem high] eqA26

/-! ### facts_Order: function 22 -/
-- by hand: cohousing/facts.Order
section
section
open Go.Sort (grow alloc_eq_grow grow_grow Holds putRow flatK HoldsK putRowK setMany get_setMany size_setMany get_flatK size_flatK ext_get! blk_iff)
open Go.Lib (compact compactUpTo CompInv keeps keeps_lt_one keeps_pos keeps_neg compactUpTo_all range_map_get)
open Go.Proofs.YthcjocojngochaaGreatDoor.Pure (cmpR cmpR_weak cmpR_zero ltR sortR sortR_one cmpI cmpL cmpG thenC)
/-- Equality of records, as the walk tells it. -/
def eq26 (u v : S26) : Bool := (u.f0 == v.f0 && (u.f1.toList == v.f1.toList && (u.f2 == v.f2 && ((u.f3.f0 == v.f3.f0 && (u.f3.f1 == v.f3.f1)) && (u.f4 == v.f4 && (u.f5 == v.f5))))))
theorem list_inj (a b : ByteArray) (h : a.toList = b.toList) : a = b := by
  exact ba_inj.1 h
theorem eq26_iff (u v : S26) : eq26 u v = true ↔ u = v := by
  unfold eq26
  simp only [Bool.and_eq_true, beq_iff_eq]
  constructor
  · rintro ⟨h0, h1, h2, ⟨h3, h4⟩, h5, h6⟩
    obtain ⟨u0, u1, u2, ⟨u3, u4⟩, u5, u6⟩ := u
    obtain ⟨v0, v1, v2, ⟨v3, v4⟩, v5, v6⟩ := v
    simp only at h0 h1 h2 h3 h4 h5 h6
    have := list_inj _ _ h1
    subst h0 this h2 h3 h4 h5 h6
    rfl
  · rintro rfl
    exact ⟨rfl, rfl, rfl, ⟨rfl, rfl⟩, rfl, rfl⟩
theorem ne26 {u v : S26} (h : ¬ u = v) : eq26 u v = false := by
  cases e : eq26 u v with
  | false => rfl
  | true => exact absurd ((eq26_iff u v).1 e) h
theorem ne26' {u v : S26} (h : ¬ u = v) : (!(u.f0 == v.f0) || (!(u.f1.toList == v.f1.toList) || (!(u.f2 == v.f2) || ((!(u.f3.f0 == v.f3.f0) || (!(u.f3.f1 == v.f3.f1))) || (!(u.f4 == v.f4) || (!(u.f5 == v.f5))))))) = true := by
  have e := congrArg (fun b => !b) (ne26 h)
  unfold eq26 at e
  simp only [Bool.not_and, Bool.not_false] at e
  exact e
instance : DecidableEq S26 := fun u v => decidable_of_iff _ (eq26_iff u v)
theorem eqA24o (d : Nat) (w : World) (x0 y0 : Int) (x1 y1 : Int) :
    (Op.equalIn (d + 2) 24 (.agg #[.int .i64 x0, .int .i64 x1]) (.agg #[.int .i64 y0, .int .i64 y1])).run Tryz.prog w = .ok (x0 == y0 && (x1 == y1)) w := by
  refine eqA_of Tryz.underlying24 (by kernel_rfl) ?_
  refine eqf_cons (by rfl) (by go_simp; rfl) (by go_simp; rfl) (by go_simp) ?_
  exact eqf_last (by rfl) (by go_simp; rfl) (by go_simp; rfl) (by go_simp)
theorem eqA26o (d : Nat) (w : World) (x0 y0 : Int) (x1 y1 : ByteArray) (x2 y2 : Int) (x3 y3 : Int) (x4 y4 : Int) (x5 y5 : Int) (x6 y6 : Bool) :
    (Op.equalIn (d + 3) 26 (.agg #[.int .i64 x0, .string x1, .int .i64 x2, .int .i64 x3, .int .i64 x4, .int .i64 x5, .bool x6]) (.agg #[.int .i64 y0, .string y1, .int .i64 y2, .int .i64 y3, .int .i64 y4, .int .i64 y5, .bool y6])).run Tryz.prog w = .ok (x0 == y0 && (x1.toList == y1.toList && (x2 == y2 && ((x3 == y3 && (x4 == y4)) && (x5 == y5 && (x6 == y6)))))) w := by
  refine eqA_of Tryz.underlying26 (by kernel_rfl) ?_
  refine eqf_cons (by rfl) (by go_simp; rfl) (by go_simp; rfl) (by go_simp) ?_
  refine eqf_cons (by rfl) (by go_simp; rfl) (by go_simp; rfl) (by go_simp) ?_
  refine eqf_cons (by rfl) (by go_simp; rfl) (by go_simp; rfl) (by go_simp) ?_
  refine eqf_cons (by rfl) (by go_simp) (by go_simp) (eqA24o (d + 0) w _ _ _ _) ?_
  refine eqf_cons (by rfl) (by go_simp; rfl) (by go_simp; rfl) (by go_simp) ?_
  exact eqf_last (by rfl) (by go_simp; rfl) (by go_simp; rfl) (by go_simp)
def facts_Order.f (l0 : List S26) : Option (List S26 × Int) := if l0.length < 4398046511104 then some (if validB l0 then (compact (sortR l0), 0) else ([], 1)) else none
/-- The typed block of a row. -/
def TB (w : World) (g cap : Nat) : Prop := ∃ cur, w.heap[g]? = some (.cells cur 26 (0, 0)) ∧ cur.size = cap * 7
theorem tb_block {w w' : World} {g cap : Nat} (h : TB w g cap) (e : w'.heap[g]? = w.heap[g]?) : TB w' g cap := by
  obtain ⟨cur, h1, h2⟩ := h
  exact ⟨cur, e.trans h1, h2⟩
theorem tb_swk {w0 W : World} {g cap : Nat} {dk : Array S26} (S : SWK enc26 7 w0 g 0 dk W) (hg : g < w0.heap.size) (h : TB w0 g cap) : TB W g cap := by
  obtain ⟨n, os, rfl⟩ := S
  obtain ⟨cur, h1, h2⟩ := h
  refine ⟨Go.Sort.putCells id 0 (flatK enc26 7 dk) cur, ?_, by simp [Go.Sort.putCells, h2]⟩
  unfold sortWorldK
  rw [Go.Sort.heap_grow_old _ _ (by rw [Go.Sort.size_putRowK]; exact hg)]
  unfold putRowK
  simp only [putRow, Go.Sort.mapBlock, Array.getElem?_modify]
  rw [if_pos trivial, show (Go.Sort.ahead w0 n).heap[g]? = w0.heap[g]? from rfl, h1]
  rfl
theorem tb_set {w : World} {g cap : Nat} (h : TB w g cap) (b o : Nat) (v : Value) : TB (w.setCell ⟨b, o, none⟩ v) g cap := by
  obtain ⟨cur, h1, h2⟩ := h
  by_cases hb : b = g
  · subst hb
    refine ⟨cur.setIfInBounds o v, ?_, by simpa using h2⟩
    simp [World.setCell, Array.getElem?_modify, h1]
  · exact ⟨cur, (Below.heap_setCell w ⟨b, o, none⟩ v g (Ne.symm hb)).trans h1, h2⟩
theorem tb_sets {g cap : Nat} (b : Nat) : ∀ (vs : List Value) (o : Nat) (w : World), TB w g cap → TB (w.setCells b o vs) g cap
  | [], _, _, h => h
  | v :: r, o, w, h => tb_sets b r (o + 1) _ (tb_set h b o v)
/-- A typed block that holds a row is a row of the call's own. -/
theorem R_of_holds {w : World} {g cap base : Nat} {l : List S26} (hT : TB w g cap) (hH : HoldsK enc26 7 w g 0 l.toArray) (hle : l.length ≤ cap) (hmax : cap ≤ maxLen) (hb : base ≤ g) :
    Kd.R k26 26 w base (fun _ => True) (.slice (some ⟨g, 0, none⟩) l.length cap) l := by
  obtain ⟨cur, h1, h2⟩ := hT
  have hl : l.length * 7 ≤ cur.size := by rw [h2]; exact Nat.mul_le_mul_right _ hle
  refine ⟨fun _ _ => trivial, cur.toList.take (l.length * 7), ⟨by simp only [List.length_take, Array.length_toList]; exact Nat.min_eq_left hl, .inr ⟨g, cap, cur, rfl, hb, h1, hle, hmax, h2, rfl⟩⟩, by simp only [List.length_take, Array.length_toList]; exact Nat.min_eq_left hl, fun j p hp => ?_⟩
  have hj : j < l.length := (List.getElem?_eq_some_iff.mp hp).1
  have ep : l[j]! = p := by
    rw [getElem!_pos l j hj]
    exact (List.getElem?_eq_some_iff.mp hp).2
  have e : ((cur.toList.take (l.length * 7)).drop (j * 7)).take 7 = enc26 p := by
    refine List.ext_getElem ?_ fun i hi hi2 => ?_
    · simp only [List.length_take, List.length_drop, Array.length_toList, enc26_len, Nat.min_eq_left hl]
      omega
    · rw [enc26_len] at hi2
      have hc := (hH (j * 7 + i) (by rw [size_flatK, List.size_toArray]; omega)).1
      rw [get_flatK _ _ _ _ (by rw [List.size_toArray]; omega), Nat.zero_add, show (j * 7 + i) / 7 = j by omega, show (j * 7 + i) % 7 = i by omega] at hc
      have e6 : (l.toArray)[j]! = p := by rw [← ep]; simp
      rw [e6] at hc
      unfold World.cell? at hc
      simp only [h1] at hc
      rw [List.getElem_take, List.getElem_drop, List.getElem_take, Array.getElem_toList]
      have h3 : cur[j * 7 + i]? = some (enc26 p)[i]! := by simpa using hc
      have h4 := (Array.getElem?_eq_some_iff.mp h3).2
      exact h4.trans (getElem!_pos (enc26 p) i (by rw [enc26_len]; exact hi2))
  show k26.M w base _ p (((cur.toList.take (l.length * 7)).drop (j * 7)).take 7)
  rw [e]
  exact k26_mkM w base _ p
theorem compact_len (l : List S26) : (compact l).length ≤ l.length := by
  unfold compact compactUpTo
  rw [List.length_map]
  have := List.length_filter_le (keeps l.toArray) (List.range l.length)
  rwa [List.length_range] at this
/-- A row's element at place o, told cell by cell. -/
theorem row_o {w1 W : World} {g : Nat} {dk d : Array S26} (S : SWK enc26 7 w1 g 0 dk W) (hg : g < w1.heap.size) (hH : HoldsK enc26 7 w1 g 0 d) (hs : dk.size = d.size) (i o : Nat) (hi : i < dk.size) (ho : o = i * 7) (u : S26) (hu : dk[i]! = u) :
    W.cell? ⟨g, o, none⟩ = some (.int .i64 u.f0) ∧ W.cell? ⟨g, o + 1, none⟩ = some (.string u.f1) ∧ W.cell? ⟨g, o + 2, none⟩ = some (.int .i64 u.f2) ∧ W.cell? ⟨g, o + 3, none⟩ = some (.int .i64 u.f3.f0) ∧ W.cell? ⟨g, o + 4, none⟩ = some (.int .i64 u.f3.f1) ∧ W.cell? ⟨g, o + 5, none⟩ = some (.int .i64 u.f4) ∧ W.cell? ⟨g, o + 6, none⟩ = some (.bool u.f5) := by
  subst ho hu
  obtain ⟨o, e, c0, c1, c2, c3, c4, c5, c6, _⟩ := row_atFa S hg hH hs i hi
  rw [← e]
  exact ⟨c0, c1, c2, c3, c4, c5, c6⟩
theorem froz_o {w1 W : World} {g : Nat} {dk d : Array S26} (S : SWK enc26 7 w1 g 0 dk W) (hg : g < w1.heap.size) (hH : HoldsK enc26 7 w1 g 0 d) (hs : dk.size = d.size) (i o : Nat) (hi : i < dk.size) (ho : o = i * 7) :
    W.frozen? ⟨g, o, none⟩ = false ∧ W.frozen? ⟨g, o + 1, none⟩ = false ∧ W.frozen? ⟨g, o + 2, none⟩ = false ∧ W.frozen? ⟨g, o + 3, none⟩ = false ∧ W.frozen? ⟨g, o + 4, none⟩ = false ∧ W.frozen? ⟨g, o + 5, none⟩ = false ∧ W.frozen? ⟨g, o + 6, none⟩ = false := by
  subst ho
  obtain ⟨o, e, _, _, _, _, _, _, _, c⟩ := row_atFa S hg hH hs i hi
  exact c
set_option maxHeartbeats 8000000 in
set_option maxRecDepth 100000 in
theorem comp52 (g cap : Nat) (l : List S26) (W : World) (hH : HoldsK enc26 7 W g 0 l.toArray) (hg : g < W.heap.size) (hT : TB W g cap) (hlen : l.length < 4398046511104) (hcap : l.length ≤ cap) :
    Calls Tryz.prog 52 #[.slice (some ⟨g, 0, none⟩) l.length cap] W fun e w' => e = .returned (.slice (some ⟨g, 0, none⟩) (compact l).length cap) ∧ HoldsK enc26 7 w' g 0 (compact l).toArray ∧ TB w' g cap ∧ Below g W w' := by
  have same : (∀ j, j < l.length → keeps l.toArray j = true) → compact l = l := fun hall => Go.Lib.compact_all l hall
  have HS := Aside0.mk same
  have HH := Aside0.mk hH
  have HT := Aside0.mk hT
  clear same hH hT
  by_cases h2 : l.length < 2
  · go_enter Tryz.func52, Tryz.ntmps52
    go_wp2
    go_ret
    have e := HS.out fun j hj => keeps_lt_one _ j (by omega)
    rw [e]
    exact ⟨rfl, HH.out, HT.out, Below.refl _ _⟩
  · go_enter Tryz.func52, Tryz.ntmps52
    go_wp2
    go_loopg [3] l.length (fun gg s3 wr => ∃ k q : Nat, 1 ≤ k ∧ k ≤ l.length ∧ l.length - k ≤ gg ∧ s3 = .int .i64 k ∧ wr = W.drewN q ∧ Aside0 (∀ j, j < k → keeps l.toArray j = true))
    case atStart => exact ⟨1, 0, Nat.le_refl _, by omega, by omega, rfl, rfl, ⟨keeps_lt_one _⟩⟩
    case round =>
      obtain ⟨k, q, hk1, hk, hgg, rfl, rfl, A⟩ := hrel
      have S0 : SWK enc26 7 W g 0 l.toArray W := SWK.start HH.out
      by_cases hlt : k < l.length
      · have hltz : (k : Int) < (l.length : Int) := by omega
        obtain ⟨x, hx⟩ : ∃ x, (l.toArray)[k]! = x := ⟨_, rfl⟩
        obtain ⟨y, hy⟩ : ∃ y, (l.toArray)[k - 1]! = y := ⟨_, rfl⟩
        have B := Aside0.mk (And.intro hx hy)
        obtain ⟨a0, a1, a2, a3, a4, a5, a6⟩ := row_o S0 hg HH.out rfl k (k * 7) (by simpa using hlt) rfl x hx
        obtain ⟨b0, b1, b2, b3, b4, b5, b6⟩ := row_o S0 hg HH.out rfl (k - 1) ((k - 1) * 7) (by simp; omega) rfl y hy
        clear hx hy S0
        by_cases hdup : x = y
        · subst hdup
          go_wp2_with fail
          go_quiet (fail)
          go_wp2
          clear a0 a1 a2 a3 a4 a5 a6 b0 b1 b2 b3 b4 b5 b6
          go_loopg [3, 5] l.length (fun gg s3 s5 wr => ∃ (kk k2 : Nat) (dk : Array S26), s3 = .int .i64 kk ∧ s5 = .int .i64 k2 ∧ 1 ≤ k2 ∧ k + k2 ≤ l.length ∧ l.length - (k + k2) ≤ gg ∧ Aside0 (SWK enc26 7 W g 0 dk wr) ∧ Aside0 (CompInv l.toArray (k + k2) kk dk))
          case atStart => exact ⟨k, 1, l.toArray, rfl, rfl, Nat.le_refl _, by omega, by omega, ⟨(SWK.start HH.out).drewN _⟩, ⟨CompInv.start A.out (keeps_neg (by omega) (by rw [B.out.1, B.out.2]))⟩⟩
          case round =>
            obtain ⟨kk, k2, dk, rfl, rfl, h1, hle, hg2, HW, HI⟩ := hrel
            have hkk := HI.out.lt
            have hds : dk.size = l.length := by rw [HI.out.size]; simp
            by_cases hlt2 : k + k2 < l.length
            · have hltz2 : (k2 : Int) < ((l.length - k : Nat) : Int) := by omega
              obtain ⟨u, hu⟩ : ∃ u, (l.toArray)[k + k2]! = u := ⟨_, rfl⟩
              obtain ⟨v, hv⟩ : ∃ v, (l.toArray)[k + k2 - 1]! = v := ⟨_, rfl⟩
              have C := Aside0.mk (And.intro hu hv)
              obtain ⟨a0, a1, a2, a3, a4, a5, a6⟩ := row_o HW.out hg HH.out (by rw [hds]; simp) (k + k2) (k * 7 + k2 * 7) (by omega) (by omega) u (by rw [HI.out.high _ (by omega)]; exact hu)
              obtain ⟨b0, b1, b2, b3, b4, b5, b6⟩ := row_o HW.out hg HH.out (by rw [hds]; simp) (k + k2 - 1) (k * 7 + (k2 - 1) * 7) (by omega) (by omega) v (by rw [HI.out.high _ (by omega)]; exact hv)
              obtain ⟨old, ho⟩ : ∃ o, dk[kk]! = o := ⟨_, rfl⟩
              obtain ⟨c0, c1, c2, c3, c4, c5, c6⟩ := row_o HW.out hg HH.out (by rw [hds]; simp) kk (kk * 7) (by omega) rfl old ho
              obtain ⟨f0, f1, f2, f3, f4, f5, f6⟩ := froz_o HW.out hg HH.out (by rw [hds]; simp) kk (kk * 7) (by omega) rfl
              clear hu hv ho
              by_cases huv : u = v
              · subst huv
                go_wp2_with fail
                go_quiet (fail)
                go_wp2
                go_roundg (l.length - (k + (k2 + 1)))
                case measure => omega
                case rel => exact ⟨kk, k2 + 1, dk, rfl, by go_num, by omega, by omega, Nat.le_refl _, ⟨HW.out.drewN _⟩, ⟨HI.out.skip (keeps_neg (by omega) (by rw [C.out.1, C.out.2]))⟩⟩
              · have n1 := ne26 huv
                unfold eq26 at n1
                have N1 := Aside0.mk n1
                have N2 := Aside0.mk (ne26' huv)
                have N3 := Aside0.mk huv
                clear n1 huv
                have q26 := eqA26o
                go_wp2_with fail
                go_quiet (fail)
                clear q26
                first | simp only [N1.out] | simp only [N2.out]
                go_wp2
                go_roundg (l.length - (k + (k2 + 1)))
                case measure => omega
                case rel =>
                  refine ⟨kk + 1, k2 + 1, dk.setIfInBounds kk u, by go_num, by go_num, by omega, by omega, Nat.le_refl _, ⟨?_⟩, ⟨?_⟩⟩
                  · have := swk_put (HW.out.drewN nq) enc26_len hg kk (by omega) u
                    rw [Nat.zero_add] at this
                    exact this
                  · have := HI.out.keep (by simpa using hlt2) (keeps_pos (by rw [C.out.1, C.out.2]; exact N3.out))
                    rwa [C.out.1] at this
            · have hend : k + k2 = l.length := by omega
              have hltz2 : ¬ (k2 : Int) < ((l.length - k : Nat) : Int) := by omega
              have hh := HW.out.holds hg HH.out (by rw [hds]; simp)
              have hcell : ∀ c, c < (l.length - kk) * 7 → wr.cell? ⟨g, kk * 7 + c, none⟩ = some ((flatK enc26 7 dk)[kk * 7 + c]!) ∧ wr.frozen? ⟨g, kk * 7 + c, none⟩ = false := fun c hc => by
                have := hh (kk * 7 + c) (by rw [size_flatK, hds]; omega)
                rwa [Nat.zero_add] at this
              obtain ⟨vs, hcl⟩ := run_clear26 wr g (kk * 7) (l.length - kk) (cap - kk) (by omega) (fun c hc => by rw [(hcell c hc).1]; rfl) (fun c hc => (hcell c hc).2)
              have hh' := Aside0.mk hh
              clear hcell hh
              go_wp2
              go_ret
              have hI := HI.out
              rw [hend] at hI
              have hln : (compact l).length = kk := by
                have := hI.len
                exact this
              refine ⟨by rw [hln]; rfl, ?_, tb_sets g _ _ _ (tb_swk HW.out hg HT.out), ?_⟩
              · intro t ht
                rw [size_flatK, List.size_toArray, hln] at ht
                have hq : t / 7 < kk := Nat.div_lt_of_lt_mul (by rw [Nat.mul_comm]; exact ht)
                obtain ⟨e1, e2⟩ := hh'.out t (by rw [size_flatK, hds]; omega)
                have e0 : (flatK enc26 7 (compact l).toArray)[t]! = (flatK enc26 7 dk)[t]! := by
                  rw [get_flatK _ _ _ _ (by rw [List.size_toArray, hln]; exact ht), get_flatK _ _ _ _ (by rw [hds]; omega)]
                  have := hI.low (t / 7) hq
                  have e3 : ((compact l).toArray)[t / 7]! = dk[t / 7]! := by
                    rw [getElem!_def, List.getElem?_toArray, show (compact l)[t / 7]? = some dk[t / 7]! from this]
                  rw [e3]
                rw [e0]
                rw [Nat.zero_add] at e1 e2 ⊢
                refine ⟨?_, by rw [World.frozen?_setCells]; exact e2⟩
                rw [World.cell?_setCells_out g _ _ _ _ (fun _ _ => Or.inl (by show t < kk * 7; exact ht))]
                exact e1
              · exact below_sets g _ _ _ (swk_below HW.out hg) (Nat.le_refl _)
        · have n1 := ne26 hdup
          unfold eq26 at n1
          have N1 := Aside0.mk n1
          have N2 := Aside0.mk (ne26' hdup)
          have N3 := Aside0.mk hdup
          clear n1 hdup
          have q26 := eqA26o
          go_wp2_with fail
          go_quiet (fail)
          clear q26
          first | simp only [N1.out] | simp only [N2.out]
          go_wp2
          go_roundg (l.length - (k + 1))
          case measure => omega
          case rel =>
            refine ⟨k + 1, q + nq, by omega, by omega, Nat.le_refl _, by go_num, rfl, ⟨fun j hj => ?_⟩⟩
            by_cases e : j = k
            · subst e
              exact keeps_pos (by rw [B.out.1, B.out.2]; exact N3.out)
            · exact A.out j (by omega)
      · obtain rfl : k = l.length := by omega
        clear S0
        go_wp2
        go_ret
        have e := HS.out A.out
        rw [e]
        exact ⟨rfl, ((SWK.start HH.out).drewN q).holds hg HH.out rfl, tb_block HT.out rfl, swk_below ((SWK.start HH.out).drewN q) hg⟩
/-- The sort, with the row's cells told. -/
theorem sort50H (g cap : Nat) (l : List S26) (W : World) (hH : HoldsK enc26 7 W g 0 l.toArray) (hg : g < W.heap.size) (hT : TB W g cap) (hlen : l.length < 4398046511104) :
    Calls Tryz.prog 50 #[.slice (some ⟨g, 0, none⟩) l.length cap, .func (.func 51) #[] #[]] W fun e w' => e = .returned (.tuple #[]) ∧ HoldsK enc26 7 w' g 0 (sortR l).toArray ∧ TB w' g cap ∧ Below g W w' := by
  have hcmp : CmpLays Tryz.prog 51 #[] enc26 7 cmpR g 0 l.toArray.size W := by
    intro m os dk hdk x y
    refine (cmp51 x y _).mono ?_
    rintro e w' ⟨rfl, q, os', rfl⟩
    rw [cmp_same]
    exact ⟨rfl, q, os', rfl⟩
  have hcon := AnyQ.slices_SortFunc Tryz.laySortR 7 Tryz.isAgg26 Tryz.sizeOf26 enc26 enc26_len enc26_one cmpR swoR 51 #[] g 0 cap l.toArray W (enters_of Tryz.func51 (by kernel_rfl) rfl) hcmp hH hg (by simp; omega)
  refine hcon.mono ?_
  rintro e w' ⟨rfl, d', n, os, hp, hs, rfl⟩
  have hsz : d'.size = l.length := by rw [hp.1]; simp
  have hpm : d'.toList.Perm l := by
    have := hp.2.2
    rw [← hp.1, Array.extract_size, hp.1] at this
    simpa using this
  have hup : Pure.Up d'.toList := by
    rw [Pure.Up, List.pairwise_iff_getElem]
    intro i j hi hj hij
    have := hs i j (Nat.zero_le _) hij (by rw [List.size_toArray, ← hsz]; simpa using hj)
    rw [getElem!_pos d' i (by simpa using hi), getElem!_pos d' j (by simpa using hj)] at this
    unfold ltOf at this
    simpa [ltR] using this
  have e1 := sortR_one l d'.toList hpm hup
  have S : SWK enc26 7 W g 0 d' (sortWorldK enc26 7 W g 0 n d' os) := ⟨n, os, rfl⟩
  have hh := S.holds hg hH (by rw [hsz]; simp)
  rw [← e1, Array.toArray_toList]
  exact ⟨rfl, hh, tb_swk S hg hT, swk_below S hg⟩
theorem comp52_none (p : Option Addr) (cap : Nat) (W : World) : Calls Tryz.prog 52 #[.slice p 0 cap] W fun e w' => e = .returned (.slice p 0 cap) ∧ w' = W := by
  go_enter Tryz.func52, Tryz.ntmps52
  go_wp2
  go_ret
  exact ⟨rfl, rfl⟩
/-- What a call has made: nothing, or a typed block that holds it. -/
theorem made_of_R {w : World} {base : Nat} {v : Value} {l : List S26} (h : Kd.R k26 26 w base (fun _ => True) v l) :
    (l = [] ∧ v = .slice none 0 0) ∨ ∃ g cap, v = .slice (some ⟨g, 0, none⟩) l.length cap ∧ l.length ≤ cap ∧ cap ≤ maxLen ∧ HoldsK enc26 7 w g 0 l.toArray ∧ TB w g cap ∧ g < w.heap.size ∧ base ≤ g := by
  obtain ⟨inner, ho⟩ := Kd.R_own h
  rcases ho.2 with ⟨e0, h0⟩ | ⟨g, cap, cur, e, hg, hh, hcap, hmax, hcs, htake⟩
  · exact .inl ⟨List.length_eq_zero_iff.mp h0, e0⟩
  · refine .inr ⟨g, cap, e, hcap, hmax, ?_, ⟨cur, hh, hcs⟩, ?_, hg⟩
    · rcases holds_of_R h with ⟨rfl, _⟩ | ⟨hpos, g', cap', e', _, hH, _, _⟩
      · intro t ht
        simp at ht
      · rw [e] at e'
        injection e' with e1 e2 e3
        injection e1 with e4
        injection e4 with e5 e6 e7
        subst e5
        exact hH
    · exact (Array.getElem?_eq_some_iff.mp hh).1
set_option maxHeartbeats 4000000 in
theorem facts_Order.calls (A0 : Option Addr) (c0 : Nat) (l0 : List S26) (r1 : List S26) (r2 : Int) (w : World) (hr0 : Kd.C k26 w A0 l0.length l0) (hc0 : l0.length ≤ c0) (h : facts_Order.f l0 = some (r1, r2)) :
    Calls Tryz.prog 22 #[.slice A0 l0.length c0] w fun e w' => ∃ v0_ : Value, e = .returned (.tuple #[v0_, .int .i64 r2]) ∧ Kd.R k26 26 w' w.heap.size (fun _ => True) v0_ r1 ∧ Below w.heap.size w w' := by
  unfold facts_Order.f at h
  split at h
  · rename_i hlen
    have HR0 := Aside0.mk hr0
    have HC0 := Aside0.mk hc0
    clear hr0 hc0
    cases hv : validB l0 with
    | false =>
      rw [hv, if_neg (by decide)] at h
      have e := Option.some.inj h
      injection e with e1 e2
      subst e1 e2
      clear h
      go_enter Tryz.func22, Tryz.ntmps22
      go_wp2_with (go_at_call 11; refine (valid11V A0 c0 l0 _ HR0.out hlen).mono ?_; rw [hv]; rintro e w1 ⟨rfl, hb⟩)
      go_ret2
      exact ⟨_, rfl, Kd.R_nil _ _ _ _ _, hb⟩
    | true =>
      rw [hv, if_pos rfl] at h
      have e := Option.some.inj h
      injection e with e1 e2
      subst e1 e2
      clear h
      have h4 : l0.length ≤ 4000 := by
        have := hv
        unfold validB at this
        simp at this
        exact this.1
      go_enter Tryz.func22, Tryz.ntmps22
      go_wp2_with (first | (go_at_call 11; refine (valid11V A0 c0 l0 _ HR0.out hlen).mono ?_; rw [hv]; rintro e w1 ⟨rfl, hb⟩; have HB1 := Aside0.mk hb; clear hb) | fail)
      refine (clone49 A0 c0 l0 _ (Kd.C_below HR0.out HB1.out) HC0.out (by omega)).mono ?_
      rintro e w2 ⟨v2, rfl, hR2, hb2⟩
      have HB2 := Aside0.mk (HB1.out.trans (hb2.mono HB1.out.size))
      rcases made_of_R hR2 with ⟨rfl, rfl⟩ | ⟨g, cap, rfl, hcap, hmax, hH2, hT2, hg2, hbg⟩
      · have e0 : compact (sortR ([] : List S26)) = [] := rfl
        clear hR2 hb2
        go_wp2_with (first | (go_at_call 50; refine (sort50_none none 0 _ _).mono ?_; rintro e w3 ⟨rfl, rfl⟩) | (go_at_call 52; refine (comp52_none none 0 _).mono ?_; rintro e w4 ⟨rfl, rfl⟩))
        go_ret2
        rw [e0]
        exact ⟨_, rfl, Kd.R_nil _ _ _ _ _, HB2.out⟩
      · have HS := Aside0.mk (sort50H g cap l0 w2 hH2 hg2 hT2 (by omega))
        have hsl : (sortR l0).length = l0.length := (Pure.sortR_perm _).length_eq
        have hbw : w.heap.size ≤ g := Nat.le_trans HB1.out.size hbg
        clear hR2 hb2 hH2 hT2
        go_wp2_with fail
        refine HS.out.mono ?_
        rintro e w3 ⟨rfl, hH3, hT3, hb3⟩
        have hg3 : g < w3.heap.size := Nat.lt_of_lt_of_le hg2 hb3.size
        have HC := Aside0.mk (comp52 g cap (sortR l0) w3 hH3 hg3 hT3 (by omega) (by omega))
        rw [hsl] at HC
        have HB3 := Aside0.mk (HB2.out.trans (hb3.mono hbw))
        clear hH3 hT3 hb3
        go_wp2_with fail
        refine HC.out.mono ?_
        rintro e w4 ⟨rfl, hH4, hT4, hb4⟩
        have HB4 := Aside0.mk (HB3.out.trans (hb4.mono hbw))
        have HR4 := Aside0.mk (R_of_holds (base := w.heap.size) hT4 hH4 (Nat.le_trans (compact_len _) (by omega)) hmax hbw)
        clear hH4 hT4 hb4
        go_wp2
        go_ret2
        exact ⟨_, rfl, HR4.out, HB4.out⟩
  · exact absurd h (by simp)
end
end

/-! ### cohousingref16_Same: function 24 -/
def cohousingref16_Same.l0 : Nat → List (S26) → List (S26) → Int → Option (Bool)
  | 0, _, _, _ => none
  | k + 1, x0, x1, x5 => if x5 < (x0.length : Int) then (if 0 ≤ x5 then (if x5 < (x1.length : Int) then (if (!(((rd_T26 x0 x5).f0) == ((rd_T26 x1 x5).f0)) || (!((((rd_T26 x0 x5).f1).toList) == (((rd_T26 x1 x5).f1).toList)) || (!(((rd_T26 x0 x5).f2) == ((rd_T26 x1 x5).f2)) || ((!(((rd_T26 x0 x5).f3.f0) == ((rd_T26 x1 x5).f3.f0)) || (!(((rd_T26 x0 x5).f3.f1) == ((rd_T26 x1 x5).f3.f1)))) || (!(((rd_T26 x0 x5).f4) == ((rd_T26 x1 x5).f4)) || (!(((rd_T26 x0 x5).f5) == ((rd_T26 x1 x5).f5)))))))) = true then (some false) else (cohousingref16_Same.l0 k x0 x1 (wrap64 (x5 + 1)))) else (none)) else (none)) else (some true)
def cohousingref16_Same.f (k : Nat) (l0 : List (S26)) (l1 : List (S26)) : Option (Bool) := if (l0.length : Int) = (l1.length : Int) then (cohousingref16_Same.l0 k l0 l1 0) else (some false)
theorem cohousingref16_Same.mono_l : ∀ k, (∀ y0 y1 y2, LeO (cohousingref16_Same.l0 k y0 y1 y2) (cohousingref16_Same.l0 (k + 1) y0 y1 y2))
  | 0 => fun _ _ _ r h => by simp [cohousingref16_Same.l0] at h
  | k + 1 => by
    have ih0 := cohousingref16_Same.mono_l k
    · intro y0 y1 y2
      unfold cohousingref16_Same.l0
      repeat' first
      | (with_reducible exact ih0 _ _ _)
      | (with_reducible exact LeO.refl _)
      | (with_reducible exact LeO.none _)
      | (with_reducible refine LeO.ite ?_ ?_)
      | (with_reducible refine LeO.bind ?_ (fun _ => ?_))
      | exact ih0 _ _ _
      | exact LeO.none _
      | refine LeO.ite ?_ ?_
      | refine LeO.bind ?_ (fun _ => ?_)
theorem cohousingref16_Same.mono : ∀ a0 a1 k, LeO (cohousingref16_Same.f k a0 a1) (cohousingref16_Same.f (k + 1) a0 a1) := by
  intro a0 a1 k
  have ih0 := cohousingref16_Same.mono_l k
  unfold cohousingref16_Same.f
  repeat' first
      | (with_reducible exact ih0 _ _ _)
      | (with_reducible exact LeO.refl _)
      | (with_reducible exact LeO.none _)
      | (with_reducible refine LeO.ite ?_ ?_)
      | (with_reducible refine LeO.bind ?_ (fun _ => ?_))
      | exact ih0 _ _ _
      | exact LeO.none _
      | refine LeO.ite ?_ ?_
      | refine LeO.bind ?_ (fun _ => ?_)
set_option maxHeartbeats 8000000 in
set_option maxRecDepth 100000 in
theorem cohousingref16_Same.calls (k : Nat) (A0 : Option Addr) (c0 : Nat) (l0 : List (S26)) (A1 : Option Addr) (c1 : Nat) (l1 : List (S26)) (r : Bool) (w : World) (hr0 : Kd.C k26 w A0 l0.length l0) (hc0 : l0.length ≤ c0) (hr1 : Kd.C k26 w A1 l1.length l1) (hc1 : l1.length ≤ c1) (h : cohousingref16_Same.f k l0 l1 = some r) :
    Calls Tryz.prog 24 #[.slice A0 l0.length c0, .slice A1 l1.length c1] w fun e w' => e = .returned (.bool r) ∧ Drawn0 w w' := by
  have hu26 := Tryz.underlying26
  have HR0 := Aside0.mk hr0
  have HC0 := Aside0.mk hc0
  clear hr0 hc0
  have HR1 := Aside0.mk hr1
  have HC1 := Aside0.mk hc1
  clear hr1 hc1
  have H : (if (l0.length : Int) = (l1.length : Int) then (cohousingref16_Same.l0 k l0 l1 0) else (some false)) = some r := h
  clear h
  by_cases c3 : (l0.length : Int) = (l1.length : Int)
  · rw [if_pos c3] at H
    have c3b0 : ((l0.length : Int) == (l1.length : Int)) = true := beq_iff_eq.mpr c3
    have c3b1 : ((l0.length : Int) != (l1.length : Int)) = false := bne_eq_false_iff_eq.mpr c3
    have c3b2 : (l0.length == l1.length) = true := by first | simpa using c3 | (simp at c3 ⊢; omega)
    clear c3
    have H' := Aside0.mk H
    clear H
    go_enter Tryz.func24, Tryz.ntmps24
    go_wp2
    repeat (go_quiet (fail); try go_wp2)
    go_loopg [5] k (fun kq v5 w' => ∃ (x5_1 : Int), v5 = .int .i64 x5_1 ∧ Aside0 (cohousingref16_Same.l0 kq l0 l1 x5_1 = some r) ∧ Aside0 (kq ≤ k) ∧ Drawn0 w w')
    case atStart => exact ⟨(0), (by first | rfl | (simp; done) | (simp [*]; done)), H', ⟨Nat.le_refl _⟩, by repeat (first | exact Drawn0.refl _ | apply Drawn0.step)⟩
    case round =>
      clear H'
      try clear c1
      try clear c2
      try clear p2
      try clear c3
      try clear c3b0
      try clear c3b1
      try clear c3b2
      obtain ⟨x5_1, rfl, HA, HK1, ⟨m1, rfl⟩⟩ := hrel
      cases gk with
      | zero => exact absurd HA.out (by simp [cohousingref16_Same.l0])
      | succ k1 =>
        have H := HA.out
        clear HA
        simp only [cohousingref16_Same.l0] at H
        by_cases c4 : x5_1 < (l0.length : Int)
        · rw [if_pos c4] at H
          have c4b0 : decide (x5_1 < (l0.length : Int)) = true := decide_eq_true c4
          clear c4
          by_cases c5 : 0 ≤ x5_1
          · rw [if_pos c5] at H
            have c5b0 : decide (0 ≤ x5_1) = true := decide_eq_true c5
            clear c5
            by_cases c6 : x5_1 < (l1.length : Int)
            · rw [if_pos c6] at H
              have c6b0 : decide (x5_1 < (l1.length : Int)) = true := decide_eq_true c6
              clear c6
              by_cases c7 : (!(((rd_T26 l0 x5_1).f0) == ((rd_T26 l1 x5_1).f0)) || (!((((rd_T26 l0 x5_1).f1).toList) == (((rd_T26 l1 x5_1).f1).toList)) || (!(((rd_T26 l0 x5_1).f2) == ((rd_T26 l1 x5_1).f2)) || ((!(((rd_T26 l0 x5_1).f3.f0) == ((rd_T26 l1 x5_1).f3.f0)) || (!(((rd_T26 l0 x5_1).f3.f1) == ((rd_T26 l1 x5_1).f3.f1)))) || (!(((rd_T26 l0 x5_1).f4) == ((rd_T26 l1 x5_1).f4)) || (!(((rd_T26 l0 x5_1).f5) == ((rd_T26 l1 x5_1).f5)))))))) = true
              · rw [if_pos c7] at H
                have c7b0 : (!(((rd_T26 l0 x5_1).f0) == ((rd_T26 l1 x5_1).f0)) || (!((((rd_T26 l0 x5_1).f1).toList) == (((rd_T26 l1 x5_1).f1).toList)) || (!(((rd_T26 l0 x5_1).f2) == ((rd_T26 l1 x5_1).f2)) || ((!(((rd_T26 l0 x5_1).f3.f0) == ((rd_T26 l1 x5_1).f3.f0)) || (!(((rd_T26 l0 x5_1).f3.f1) == ((rd_T26 l1 x5_1).f3.f1)))) || (!(((rd_T26 l0 x5_1).f4) == ((rd_T26 l1 x5_1).f4)) || (!(((rd_T26 l0 x5_1).f5) == ((rd_T26 l1 x5_1).f5)))))))) = true := c7
                clear c7
                obtain rfl := Option.some.inj H
                have p276 : 0 ≤ (x5_1 : Int) := of_decide_eq_true (by first | (with_reducible assumption) | assumption)
                have q276 : x5_1 < (l0.length : Int) := of_decide_eq_true (by first | (with_reducible assumption) | assumption)
                obtain ⟨ad276, e276, hx276_0, hx276_1, hx276_2, hx276_3, hx276_4, hx276_5, hx276_6⟩ := at_T26 HR0.out x5_1 p276 q276
                cases e276
                replace p276 := eq_true p276
                replace q276 := eq_true q276
                have p277 : 0 ≤ (x5_1 : Int) := of_decide_eq_true (by first | (with_reducible assumption) | assumption)
                have q277 : x5_1 < (l1.length : Int) := of_decide_eq_true (by first | (with_reducible assumption) | assumption)
                obtain ⟨ad277, e277, hx277_0, hx277_1, hx277_2, hx277_3, hx277_4, hx277_5, hx277_6⟩ := at_T26 HR1.out x5_1 p277 q277
                cases e277
                replace p277 := eq_true p277
                replace q277 := eq_true q277
                go_wp2
                repeat (go_quiet (fail); try go_wp2)
                go_ret
                exact ⟨by first | rfl | (simp; done) | (simp [*]; done), by repeat (first | exact Drawn0.refl _ | apply Drawn0.step)⟩
              · rw [if_neg c7] at H
                have c7b0 : (!(((rd_T26 l0 x5_1).f0) == ((rd_T26 l1 x5_1).f0)) || (!((((rd_T26 l0 x5_1).f1).toList) == (((rd_T26 l1 x5_1).f1).toList)) || (!(((rd_T26 l0 x5_1).f2) == ((rd_T26 l1 x5_1).f2)) || ((!(((rd_T26 l0 x5_1).f3.f0) == ((rd_T26 l1 x5_1).f3.f0)) || (!(((rd_T26 l0 x5_1).f3.f1) == ((rd_T26 l1 x5_1).f3.f1)))) || (!(((rd_T26 l0 x5_1).f4) == ((rd_T26 l1 x5_1).f4)) || (!(((rd_T26 l0 x5_1).f5) == ((rd_T26 l1 x5_1).f5)))))))) = false := by simpa using c7
                clear c7
                have H' := Aside0.mk H
                clear H
                have p276 : 0 ≤ (x5_1 : Int) := of_decide_eq_true (by first | (with_reducible assumption) | assumption)
                have q276 : x5_1 < (l0.length : Int) := of_decide_eq_true (by first | (with_reducible assumption) | assumption)
                obtain ⟨ad276, e276, hx276_0, hx276_1, hx276_2, hx276_3, hx276_4, hx276_5, hx276_6⟩ := at_T26 HR0.out x5_1 p276 q276
                cases e276
                replace p276 := eq_true p276
                replace q276 := eq_true q276
                have p277 : 0 ≤ (x5_1 : Int) := of_decide_eq_true (by first | (with_reducible assumption) | assumption)
                have q277 : x5_1 < (l1.length : Int) := of_decide_eq_true (by first | (with_reducible assumption) | assumption)
                obtain ⟨ad277, e277, hx277_0, hx277_1, hx277_2, hx277_3, hx277_4, hx277_5, hx277_6⟩ := at_T26 HR1.out x5_1 p277 q277
                cases e277
                replace p277 := eq_true p277
                replace q277 := eq_true q277
                go_wp2
                repeat (go_quiet (fail); try go_wp2)
                go_roundg k1
                case measure => have := HK1.out; omega
                case rel => exact ⟨(wrap64 (x5_1 + 1)), (by first | rfl | (simp; done) | (simp [*]; done)), H', ⟨by have := HK1.out; omega⟩, by repeat (first | exact Drawn0.refl _ | apply Drawn0.step)⟩
            · rw [if_neg c6] at H
              exact absurd H (by simp)
          · rw [if_neg c5] at H
            exact absurd H (by simp)
        · rw [if_neg c4] at H
          have c4b0 : decide (x5_1 < (l0.length : Int)) = false := decide_eq_false c4
          clear c4
          obtain rfl := Option.some.inj H
          go_wp2
          repeat (go_quiet (fail); try go_wp2)
          go_ret
          exact ⟨by first | rfl | (simp; done) | (simp [*]; done), by repeat (first | exact Drawn0.refl _ | apply Drawn0.step)⟩
  · rw [if_neg c3] at H
    have c3b0 : ((l0.length : Int) == (l1.length : Int)) = false := beq_eq_false_iff_ne.mpr c3
    have c3b1 : ((l0.length : Int) != (l1.length : Int)) = true := bne_iff_ne.mpr c3
    have c3b2 : (l0.length == l1.length) = false := by first | simpa using c3 | (simp at c3 ⊢; omega)
    obtain rfl := Option.some.inj H
    go_enter Tryz.func24, Tryz.ntmps24
    go_wp2
    repeat (go_quiet (fail); try go_wp2)
    go_ret
    exact ⟨by first | rfl | (simp; done) | (simp [*]; done), by repeat (first | exact Drawn0.refl _ | apply Drawn0.step)⟩

/-! ### cohousinglaw16_mixed: function 25 -/
-- by hand: cohousing/cohousinglaw16.mixed
section
section
open Go.Sort (grow alloc_eq_grow grow_grow Holds putRow flatK HoldsK putRowK setMany get_setMany size_setMany get_flatK size_flatK ext_get! blk_iff)
/-- A pick's place in a list. -/
def mixI (k : Int) (n : Nat) : Nat := (bits .and .i64 k 1023).toNat % n
/-- One pick: a copy of a record, and a record taken out of the rest. -/
def mixS (l : List S26) (st : List S26 × List S26) (k : Int) : List S26 × List S26 :=
  if st.2.length = 0 then (st.1 ++ [l.getD (mixI k l.length) z26], st.2)
  else (st.1 ++ [l.getD (mixI k l.length) z26] ++ [st.2.getD (mixI k st.2.length) z26], st.2.eraseIdx (mixI k st.2.length))
def mixL (l : List S26) (ps : List Int) : List S26 := if l.length = 0 then [] else (ps.foldl (mixS l) ([], l)).1 ++ (ps.foldl (mixS l) ([], l)).2
theorem bits_low (k : Int) : ∃ b : Nat, bits .and .i64 k 1023 = (b : Int) ∧ b ≤ 1023 := by
  have h : (BitVec.ofInt 64 k &&& BitVec.ofInt 64 1023).toNat ≤ 1023 := by
    rw [BitVec.toNat_and]
    exact Nat.le_trans Nat.and_le_right (by decide)
  refine ⟨(BitVec.ofInt 64 k &&& BitVec.ofInt 64 1023).toNat, ?_, h⟩
  show IntKind.i64.wrap (((BitVec.ofInt 64 k &&& BitVec.ofInt 64 1023).toNat : Nat) : Int) = _
  generalize (BitVec.ofInt 64 k &&& BitVec.ofInt 64 1023).toNat = n at h
  rw [IntKind.wrap_i64]
  omega
theorem mix_i (k : Int) (n b : Nat) (hb : bits .and .i64 k 1023 = (b : Int)) : mixI k n = b % n := by
  unfold mixI
  rw [hb]
  rfl
theorem keep_row {wr w7 : World} {u6 v7 : Value} {g : Nat} (hg : g < wr.heap.size) (hn : u6.ownBlock ≠ some g) (hG : wr.grownBy w7 u6.ownBlock) (hat : v7.ownBlock = u6.ownBlock ∨ ∃ b, v7.ownBlock = some b ∧ wr.heap.size ≤ b) :
    w7.heap[g]? = wr.heap[g]? ∧ v7.ownBlock ≠ some g ∧ g < w7.heap.size := by
  refine ⟨hG.block g hg (Ne.symm hn), ?_, Nat.lt_of_lt_of_le hg hG.size⟩
  rcases hat with h | ⟨b, h, hb⟩
  · rw [h]; exact hn
  · rw [h]
    intro e
    injection e with e
    omega
/-- An empty part appended: the row stays. -/
theorem step_append_none {P : Program} {ops : Array Oper} {o : Oper} {a : Act} {w : World} {K : Act → World → Prop} {Q : Exit → Act → World → Prop} {E : Prop}
    (hg : o.guard = none) (s x : Operand) (t : TypeId) (hop : o.op = Op.call { callee := Callee.builtin Builtin.append, args := #[s, x], argTypes := #[t, t] })
    (e : TypeId) (i : TypeInfo) (h1 : P.underlying t = some (.slice e)) (h2 : P.info? e = some i) (b : Addr) (n cap : Nat) (hs : a.eval s = .slice (some b) n cap) (hnc : n ≤ cap) (A : Option Addr) (c : Nat) (hx : a.eval x = .slice A 0 c)
    (hK : K (a.put o.dst (.slice (some b) n cap)) w) : if Region.wanted o (yielded ops a.tmps) = true then Oper.wp P o a w K Q else E := by
  have hw : Region.wanted o (yielded ops a.tmps) = true := by simp [Region.wanted, hg]
  rw [if_pos hw]
  have hrun : (Builtin.append_ #[t, t] o.type #[.slice (some b) n cap, .slice A 0 c]).run P w = .ok (.slice (some b) n cap) w := by
    cases A <;> simp [Builtin.append_, run_underlying h1, sizeOf, typeInfo, h2, Builtin.lenOf, Builtin.firstCells, hnc, storeCells, loadCells, loadCellsFrom]
  unfold Oper.wp
  simp [execOp, hop, resolve, invoke, builtin, hs, hx, hrun, Result.andThen]
  exact hK
/-- The cells of a row, one behind the other. -/
def flatL (l : List S26) : List Value := (flatK enc26 7 l.toArray).toList
theorem flatL_len (l : List S26) : (flatL l).length = l.length * 7 := by simp [flatL]
theorem flatL_get (l : List S26) (t : Nat) (h : t < l.length * 7) : (flatL l)[t]? = some ((enc26 l[t / 7]!)[t % 7]!) := by
  have h2 := get_flatK enc26 7 l.toArray t (by simpa using h)
  have h3 : t < (flatK enc26 7 l.toArray).size := by rw [size_flatK]; simpa using h
  rw [getElem!_pos _ t h3] at h2
  unfold flatL
  rw [Array.getElem?_toList, Array.getElem?_eq_getElem h3, h2]
  simp
theorem flat_one (l : List S26) : ∀ u ∈ flatL l, u.oneCell' = true := by
  intro u hu
  obtain ⟨t, ht, e⟩ := List.mem_iff_getElem.1 hu
  have h2 := flatL_get l t (by rw [← flatL_len]; exact ht)
  rw [List.getElem?_eq_getElem ht, e] at h2
  rw [Option.some.inj h2]
  refine enc26_one l[t / 7]! _ ?_
  rw [getElem!_pos (enc26 l[t / 7]!) (t % 7) (by rw [enc26_len]; exact Nat.mod_lt _ (by omega))]
  exact List.getElem_mem _
theorem holds_flat {w : World} {g : Nat} {l : List S26} (h : HoldsK enc26 7 w g 0 l.toArray) (t : Nat) (u : Value) (hu : (flatL l)[t]? = some u) : w.cell? ⟨g, t, none⟩ = some u := by
  have ht : t < l.length * 7 := by rw [← flatL_len]; exact (List.getElem?_eq_some_iff.1 hu).1
  have h2 := (h t (by rw [size_flatK]; simpa using ht)).1
  rw [Nat.zero_add] at h2
  rw [h2, ← hu, flatL_get l t ht, get_flatK _ _ _ _ (by simpa using ht)]
  simp
theorem flat_take (l : List S26) (i : Nat) (hi : i ≤ l.length) : (flatL l).take (i * 7) = flatL (l.take i) := by
  refine List.ext_getElem? fun t => ?_
  by_cases ht : t < i * 7
  · rw [List.getElem?_take_of_lt ht, flatL_get l t (by omega), flatL_get _ t (by rw [List.length_take]; omega)]
    have hq : t / 7 < i := by omega
    simp [List.getElem!_eq_getElem?_getD, List.getElem?_take_of_lt hq]
  · rw [List.getElem?_eq_none (by rw [List.length_take, flatL_len]; omega), List.getElem?_eq_none (by rw [flatL_len, List.length_take]; omega)]
theorem flat_append (l m : List S26) : flatL l ++ flatL m = flatL (l ++ m) := by
  refine List.ext_getElem? fun t => ?_
  by_cases ht : t < l.length * 7
  · rw [List.getElem?_append_left (by rw [flatL_len]; exact ht), flatL_get l t ht, flatL_get _ t (by rw [List.length_append]; omega)]
    have hq : t / 7 < l.length := by omega
    simp [List.getElem!_eq_getElem?_getD, List.getElem?_append_left hq]
  · rw [List.getElem?_append_right (by rw [flatL_len]; omega), flatL_len]
    by_cases h2 : t < (l.length + m.length) * 7
    · rw [flatL_get m _ (by omega), flatL_get _ t (by rw [List.length_append]; omega), show (t - l.length * 7) % 7 = t % 7 by omega, show (t - l.length * 7) / 7 = t / 7 - l.length by omega]
      simp [List.getElem!_eq_getElem?_getD, List.getElem?_append_right (show l.length ≤ t / 7 by omega)]
    · rw [List.getElem?_eq_none (by rw [flatL_len]; omega), List.getElem?_eq_none (by rw [flatL_len, List.length_append]; omega)]
theorem flat_drop (l : List S26) (i : Nat) (hi : i ≤ l.length) : (flatL l).drop (i * 7) = flatL (l.drop i) := by
  have h1 := flat_append (l.take i) (l.drop i)
  rw [List.take_append_drop, ← flat_take l i hi] at h1
  have h2 := (List.take_append_drop (i * 7) (flatL l)).trans h1.symm
  exact List.append_cancel_left h2
theorem cells_take {w : World} {g : Nat} {l : List S26} (h : HoldsK enc26 7 w g 0 l.toArray) (i : Nat) (hi : i ≤ l.length) (W : World) (hW : W.heap[g]? = w.heap[g]?) (t : Nat) (u : Value) (hu : (flatL (l.take i))[t]? = some u) : W.cell? ((⟨g, 0, none⟩ : Addr).add t) = some u := by
  have ht : t < (flatL (l.take i)).length := (List.getElem?_eq_some_iff.1 hu).1
  rw [flatL_len, List.length_take] at ht
  rw [← flat_take l i hi, List.getElem?_take_of_lt (by omega)] at hu
  rw [Addr.add_lit, Nat.zero_add]
  exact (World.cell?_of_block hW).trans (holds_flat h t u hu)
theorem cells_drop {w : World} {g : Nat} {l : List S26} (h : HoldsK enc26 7 w g 0 l.toArray) (i : Nat) (hi : i ≤ l.length) (W : World) (hW : W.heap[g]? = w.heap[g]?) (t : Nat) (u : Value) (hu : (flatL (l.drop i))[t]? = some u) : W.cell? ((⟨g, i * 7, none⟩ : Addr).add t) = some u := by
  rw [← flat_drop l i hi, List.getElem?_drop] at hu
  rw [Addr.add_lit]
  exact (World.cell?_of_block hW).trans (holds_flat h _ u hu)
theorem holds_take {w : World} {g : Nat} {l : List S26} (h : HoldsK enc26 7 w g 0 l.toArray) (i : Nat) (hi : i ≤ l.length) (W : World) (hW : W.heap[g]? = w.heap[g]?) : HoldsK enc26 7 W g 0 (l.take i).toArray := by
  refine holds_block (w := w) (fun t ht => ?_) hW
  rw [size_flatK, List.size_toArray, List.length_take] at ht
  obtain ⟨h1, h2⟩ := h t (by rw [size_flatK, List.size_toArray]; omega)
  refine ⟨?_, h2⟩
  rw [h1, get_flatK _ _ _ _ (by rw [List.size_toArray]; omega), get_flatK _ _ _ _ (by rw [List.size_toArray, List.length_take]; omega)]
  have hq : t / 7 < i := by omega
  simp [List.getElem!_eq_getElem?_getD, List.getElem?_take_of_lt hq]
theorem owns_holds {w : World} {base n : Nat} {v : Value} {l : List S26} (h : w.ownsRow base 26 7 v n (flatL l)) (hn : 0 < n) : ∃ g cap, v = .slice (some ⟨g, 0, none⟩) n cap ∧ n ≤ cap ∧ base ≤ g ∧ g < w.heap.size ∧ HoldsK enc26 7 w g 0 l.toArray := by
  rcases h.2 with ⟨_, h0⟩ | ⟨g, cap, cur, e, hb, hh, hc, hm, hs, ht⟩
  · omega
  · refine ⟨g, cap, e, hc, hb, (Array.getElem?_eq_some_iff.mp hh).1, fun t htt => ?_⟩
    have h2 : t < l.length * 7 := by rw [size_flatK] at htt; simpa using htt
    have h3 := flatL_get l t h2
    rw [← ht, List.getElem?_take_of_lt (by have := h.1; rw [flatL_len] at this; omega)] at h3
    rw [get_flatK _ _ _ _ (by simpa using h2), Nat.zero_add]
    have e1 : l.toArray[t / 7]! = l[t / 7]! := by simp
    rw [e1]
    refine ⟨Eq.trans ?_ h3, by simp [World.frozen?, hh]⟩
    unfold World.cell?
    simp [hh]
theorem take_pick (ps : List Int) (j : Nat) (h : j < ps.length) : ps.take (j + 1) = ps.take j ++ [ps.getD j 0] := by
  rw [List.take_succ_eq_append_getElem h, List.getD_eq_getElem?_getD, List.getElem?_eq_getElem h]
  rfl
theorem fold_skip (l : List S26) (ps : List Int) (j : Nat) (out rest : List S26) (x : S26) (kv : Int) (hj : j < ps.length) (hk : kv = ps.getD j 0) (hf : (ps.take j).foldl (mixS l) ([], l) = (out, rest)) (h0 : rest.length = 0) (hx : x = l.getD (mixI kv l.length) z26) :
    (ps.take (j + 1)).foldl (mixS l) ([], l) = (out ++ [x], rest) := by
  rw [take_pick ps j hj, List.foldl_append, hf, ← hk]
  show mixS l (out, rest) kv = _
  unfold mixS
  rw [if_pos h0, ← hx]
theorem fold_out (l : List S26) (ps : List Int) (j : Nat) (out rest : List S26) (x y : S26) (i : Nat) (kv : Int) (hj : j < ps.length) (hk : kv = ps.getD j 0) (hf : (ps.take j).foldl (mixS l) ([], l) = (out, rest)) (h0 : ¬ rest.length = 0) (hx : x = l.getD (mixI kv l.length) z26) (hy : y = rest.getD (mixI kv rest.length) z26) (hi : i = mixI kv rest.length) :
    (ps.take (j + 1)).foldl (mixS l) ([], l) = (out ++ [x] ++ [y], rest.take i ++ rest.drop (i + 1)) := by
  rw [take_pick ps j hj, List.foldl_append, hf, ← hk]
  show mixS l (out, rest) kv = _
  unfold mixS
  rw [if_neg h0, ← hx, ← hy, ← hi, List.eraseIdx_eq_take_drop_succ]
set_option maxHeartbeats 8000000 in
set_option maxRecDepth 100000 in
theorem mixed25 (A0 : Option Addr) (c0 : Nat) (l : List S26) (A1 : Option Addr) (c1 : Nat) (ps : List Int) (w : World) (hr0 : Kd.C k26 w A0 l.length l) (hc0 : l.length ≤ c0) (hr1 : Kd.C (Kd.int .i64) w A1 ps.length ps) (hl : 0 < l.length) (hlen : l.length ≤ 4000) (hps : ps.length ≤ 4000) :
    Calls Tryz.prog 25 #[.slice A0 l.length c0, .slice A1 ps.length c1] w fun e w' => ∃ v : Value, e = .returned v ∧ Kd.R k26 26 w' w.heap.size (fun _ => True) v ((ps.foldl (mixS l) ([], l)).1 ++ (ps.foldl (mixS l) ([], l)).2) ∧ Below w.heap.size w w' := by
  have HR0 := Aside0.mk hr0
  have HC0 := Aside0.mk hc0
  have HR1 := Aside0.mk hr1
  obtain ⟨b0, off, eA, hb0, hcell⟩ := row26 hr0 hl
  have HCE := Aside0.mk hcell
  subst eA
  clear hr0 hc0 hr1 hcell
  go_enter Tryz.func25, Tryz.ntmps25
  go_wp2_with (first
    | ((with_reducible refine gate_dst (N := 10) rfl ?_); refine Kd.R_lit k26 (w0 := w) w.heap.size 26 ?hg (N := 10) ?hd (xs := ([] : List S26)) (inner := []) (ok := fun _ => True) (okp := fun _ => True) ?hr ?hp (fun _ hk => hk) trivial (Below.refl _ _) (Nat.le_refl _) (by simp) ?_; (case hd => rfl); (case hg => rfl); (case hr => first | (go_simp; done) | (go_simp; rfl)); (case hp => exact (Reps.none _ _)); intro v5 w5 ho hb hg_ hnew_; have HO := Aside0.mk ho; have HB := Aside0.mk hb; clear ho hb hg_ hnew_)
    | ((with_reducible refine gate_builtin (b := .append) (xs := #[.tmp 10, .tmp 11]) rfl ?_); at_builtin; refine Kd.R_append_rows k26 (w0 := w) w.heap.size rfl (.tmp 10) (.tmp 11) 22 26 (.agg #[(.int .i64 0), (.string ⟨#[]⟩), (.int .i64 0), (.int .i64 0), (.int .i64 0), (.int .i64 0), (.bool false)]) 64 rfl Tryz.underlying22 info26 rfl (by decide) (by omega) v5 [] l _ _ _ (fun _ => True) (fun _ => False) rfl rfl HO.out (Kd.C_below HR0.out HB.out) (fun _ _ h => h) (fun _ h => h.elim) (fun _ _ => trivial) HB.out HB.out.size (by simp; omega) ?_; intro v1 w6 ho hb hg hat; have HO6 := Aside0.mk ho; have HB6 := Aside0.mk hb; clear ho hb hg hat HO HB))
  rcases made_of_R HO6.out with ⟨h0, _⟩ | ⟨g, cap, rfl, hcap, hmax, hH6, _, hg6, hbg⟩
  · simp only [List.nil_append] at h0
    rw [h0] at hl
    exact absurd hl (by simp)
  rw [List.nil_append] at hcap hH6 ⊢
  have HH6 := Aside0.mk hH6
  clear hH6 HO6
  go_loopg [5, 6, 15] ps.length (fun gg s5 s6 s15 wr => ∃ (j : Nat) (out rest : List S26) (g c : Nat), s15 = .int .i64 j ∧ j ≤ ps.length ∧ ps.length - j ≤ gg ∧ s5 = .slice (some ⟨g, 0, none⟩) rest.length c ∧ rest.length ≤ c ∧ out.length ≤ 2 * j ∧ rest.length ≤ 4000 ∧ Aside0 ((ps.take j).foldl (mixS l) ([], l) = (out, rest)) ∧ Aside0 (HoldsK enc26 7 wr g 0 rest.toArray) ∧ g < wr.heap.size ∧ Aside0 (w.heap.size ≤ g) ∧ Aside0 (Kd.R k26 26 wr w.heap.size (fun _ => True) s6 out ∧ s6.ownBlock ≠ some g) ∧ Aside0 (Below w.heap.size w wr))
  case atStart => exact ⟨0, [], l, g, cap, rfl, Nat.zero_le _, by omega, rfl, hcap, Nat.zero_le _, hlen, ⟨rfl⟩, HH6, hg6, ⟨hbg⟩, ⟨Kd.R_nil _ _ _ _ _, by simp [Value.ownBlock]⟩, HB6⟩
  case round =>
    clear HH6 HB6 hg6 hbg hcap hmax
    obtain ⟨j, out, rest, g, c, rfl, hj, hgg, rfl, hrc, hol, hrl, HF, HH, hg, HGB, HO, HB⟩ := hrel
    by_cases hlt : j < ps.length
    · have hltz : (j : Int) < (ps.length : Int) := by omega
      obtain ⟨kv, hkv⟩ : ∃ kv : Int, kv = ps.getD j 0 := ⟨_, rfl⟩
      obtain ⟨ad, e1, hc⟩ := at_cut HR1.out j hlt
      subst e1
      rw [← hkv] at hc
      replace hc := (HB.out.cell (World.block_lt_of_cell? w _ hc)).trans hc
      have HKV := Aside0.mk hkv
      clear hkv
      obtain ⟨b, hb1, hb2⟩ := bits_low kv
      obtain ⟨x, hx⟩ : ∃ x : S26, x = l.getD (mixI kv l.length) z26 := ⟨_, rfl⟩
      have hil : b % l.length < l.length := Nat.mod_lt _ hl
      have htm : Int.tmod (b : Int) (l.length : Int) = ((b % l.length : Nat) : Int) := rfl
      have HX := Aside0.mk (show l[b % l.length]! = x by rw [hx, mix_i _ _ _ hb1, getElem!_pos l _ hil, List.getD_eq_getElem?_getD, List.getElem?_eq_getElem hil]; rfl)
      have hcx : ∀ (i : Nat) (v : Value), (enc26 x)[i]? = some v → wr.cell? ⟨b0, off + b % l.length * 7 + i, none⟩ = some v := fun i v hv => by
        have h_ := HCE.out (b % l.length) hil i v (by rw [HX.out]; exact hv)
        exact (HB.out.cell (World.block_lt_of_cell? w _ h_)).trans h_
      have x0 : wr.cell? ⟨b0, off + b % l.length * 7, none⟩ = some (.int .i64 x.f0) := hcx 0 _ rfl
      have x1 := hcx 1 _ rfl
      have x2 := hcx 2 _ rfl
      have x3 := hcx 3 _ rfl
      have x4 := hcx 4 _ rfl
      have x5 := hcx 5 _ rfl
      have x6 := hcx 6 _ rfl
      have HXL := Aside0.mk hx
      clear hcx hx
      have hstep := (fun (r : List S26 × List S26) (e : r = (out, rest)) => e) _ HF.out
      by_cases h0 : rest.length = 0
      · go_wp2_with (first
          | ((with_reducible refine gate_builtin (b := .append) (xs := #[.tmp 22, .tmp 31]) rfl ?_); at_builtin; refine Kd.R_append k26 (w0 := w) w.heap.size rfl (.tmp 22) (.tmp 31) 22 26 (.agg #[(.int .i64 0), (.string ⟨#[]⟩), (.int .i64 0), (.int .i64 0), (.int .i64 0), (.int .i64 0), (.bool false)]) 64 rfl Tryz.underlying22 info26 rfl (by decide) (by omega) u6 out x [.int .i64 x.f0, .string x.f1, .int .i64 x.f2, .int .i64 x.f3.f0, .int .i64 x.f3.f1, .int .i64 x.f4, .bool x.f5] (fun _ => True) (fun _ => False) rfl (by first | (go_simp; done) | (go_simp; rfl)) (k26_mkM _ _ _ x) (fun _ hk => hk.elim) (fun _ _ => trivial) HO.out.1 HB.out HB.out.size (by omega) ?_; intro v7 w7 ho hb hg_ hat; have HO7 := Aside0.mk ho; have HB7 := Aside0.mk hb; have HK7 := Aside0.mk (keep_row hg HO.out.2 hg_ hat); clear ho hb hg_ hat))
        go_roundg (ps.length - (j + 1))
        case measure => omega
        case rel => exact ⟨j + 1, out ++ [x], rest, g, c, by go_num, by omega, Nat.le_refl _, by rw [h0], hrc, by rw [List.length_append, List.length_singleton]; omega, hrl, ⟨fold_skip l ps j out rest x kv hlt HKV.out HF.out h0 HXL.out⟩, ⟨holds_block HH.out HK7.out.1⟩, HK7.out.2.2, HGB, ⟨HO7.out, HK7.out.2.1⟩, HB7⟩
      · obtain ⟨y, hy⟩ : ∃ y : S26, y = rest.getD (mixI kv rest.length) z26 := ⟨_, rfl⟩
        have hir : b % rest.length < rest.length := Nat.mod_lt _ (by omega)
        have htm2 : Int.tmod (b : Int) (rest.length : Int) = ((b % rest.length : Nat) : Int) := rfl
        obtain ⟨i, hi⟩ : ∃ i, i = b % rest.length := ⟨_, rfl⟩
        have HY := Aside0.mk (show rest.toArray[i]! = y by rw [hy, mix_i _ _ _ hb1, hi]; simp [hir])
        rw [← hi] at htm2 hir
        have HYL := Aside0.mk hy
        have HIL := Aside0.mk (show i = mixI kv rest.length by rw [hi, mix_i _ _ _ hb1])
        clear hy hi
        go_wp2_with (first
          | ((with_reducible refine gate_builtin (b := .append) (xs := #[.tmp 22, .tmp 31]) rfl ?_); at_builtin; refine Kd.R_append k26 (w0 := w) w.heap.size rfl (.tmp 22) (.tmp 31) 22 26 (.agg #[(.int .i64 0), (.string ⟨#[]⟩), (.int .i64 0), (.int .i64 0), (.int .i64 0), (.int .i64 0), (.bool false)]) 64 rfl Tryz.underlying22 info26 rfl (by decide) (by omega) u6 out x [.int .i64 x.f0, .string x.f1, .int .i64 x.f2, .int .i64 x.f3.f0, .int .i64 x.f3.f1, .int .i64 x.f4, .bool x.f5] (fun _ => True) (fun _ => False) rfl (by first | (go_simp; done) | (go_simp; rfl)) (k26_mkM _ _ _ x) (fun _ hk => hk.elim) (fun _ _ => trivial) HO.out.1 HB.out HB.out.size (by omega) ?_; intro v7 w7 ho hb hg_ hat; have HO7 := Aside0.mk ho; have HB7 := Aside0.mk hb; have HK7 := Aside0.mk (keep_row hg HO.out.2 hg_ hat); have HH7 := Aside0.mk (holds_block HH.out HK7.out.1); obtain ⟨y0, y1, y2, y3, y4, y5, y6⟩ := row_o (SWK.start HH7.out) HK7.out.2.2 HH7.out rfl i (i * 7) (by simpa using hir) rfl y HY.out; clear ho hb hg_ hat)
          | ((with_reducible refine gate_builtin (b := .append) (xs := #[.tmp 41, .tmp 46]) rfl ?_); at_builtin; refine Kd.R_append k26 (w0 := w) w.heap.size rfl (.tmp 41) (.tmp 46) 22 26 (.agg #[(.int .i64 0), (.string ⟨#[]⟩), (.int .i64 0), (.int .i64 0), (.int .i64 0), (.int .i64 0), (.bool false)]) 64 rfl Tryz.underlying22 info26 rfl (by decide) (by omega) v7 (out ++ [x]) y [.int .i64 y.f0, .string y.f1, .int .i64 y.f2, .int .i64 y.f3.f0, .int .i64 y.f3.f1, .int .i64 y.f4, .bool y.f5] (fun _ => True) (fun _ => False) rfl (by first | (go_simp; done) | (go_simp; rfl)) (k26_mkM _ _ _ y) (fun _ hk => hk.elim) (fun _ _ => trivial) HO7.out HB7.out HB7.out.size (by rw [List.length_append, List.length_singleton]; omega) ?_; intro v8 w8 ho hb hg_ hat; have HO8 := Aside0.mk ho; have HB8 := Aside0.mk hb; have HK8 := Aside0.mk (keep_row HK7.out.2.2 HK7.out.2.1 hg_ hat); have HH8 := Aside0.mk (holds_block HH7.out HK8.out.1); clear ho hb hg_ hat))
        obtain ⟨i0, hi0, hz0, hz1, hz2⟩ := info_parts info26
        have hci : i ≤ c := by omega
        have hcz : (i : Int) ≤ (c : Int) := by omega
        have hcr : i ≤ rest.length := by omega
        have hcrz : (i : Int) ≤ (rest.length : Int) := by omega
        have hwr : IntKind.i64.wrap ((i : Int) + 1) = (i : Int) + 1 := by rw [IntKind.wrap_i64]; omega
        have hp0 : (0 : Int) ≤ (i : Int) + 1 := by omega
        have hp1 : (i : Int) + 1 ≤ (rest.length : Int) := by omega
        have hp2 : ((i : Int) + 1).toNat = i + 1 := by omega
        have FT := Aside0.mk (fold_out l ps j out rest x y i kv hlt HKV.out HF.out h0 HXL.out HYL.out HIL.out)
        clear x0 x1 x2 x3 x4 x5 x6 hc hb1 htm htm2
        by_cases hlast : i + 1 = rest.length
        · have hz : rest.length - (i + 1) = 0 := by omega
          have et := Aside0.mk (show rest.take i ++ rest.drop (i + 1) = rest.take i by rw [List.drop_of_length_le (by omega), List.append_nil])
          by_cases hcl : c = rest.length
          · go_region_law (refine step_append_none rfl (.tmp 51) (.tmp 55) 22 rfl 26 i0 Tryz.underlying22 hi0 ⟨g, 0, none⟩ i i (by simp [Act.eval, Act.put]) (Nat.le_refl _) (some ⟨g, 0, none⟩) (c - rest.length) (by simp [Act.eval, Act.put, hz, hcl]) ?_)
            all_goals (
              go_wp2
              go_roundg (ps.length - (j + 1))
              case measure => omega
              case rel => exact ⟨j + 1, out ++ [x] ++ [y], rest.take i, g, i, by go_num, by omega, Nat.le_refl _, by rw [List.length_take, Nat.min_eq_left (by omega)], by rw [List.length_take]; omega, by simp only [List.length_append, List.length_singleton]; omega, by rw [List.length_take]; omega, ⟨by rw [FT.out, et.out]⟩, ⟨holds_take HH8.out i (by omega) _ rfl⟩, HK8.out.2.2, HGB, ⟨Kd.R_step HO8.out (fun _ _ _ => rfl), HK8.out.2.1⟩, ⟨by with_reducible repeat first | exact HB8.out | apply below_drew1 | apply pw_below_drewN⟩⟩)
          · go_region_law (refine step_append_none rfl (.tmp 51) (.tmp 55) 22 rfl 26 i0 Tryz.underlying22 hi0 ⟨g, 0, none⟩ i i (by simp [Act.eval, Act.put]) (Nat.le_refl _) (some ⟨g, rest.length * 7, none⟩) (c - rest.length) (by simp [Act.eval, Act.put, hz, hcl]) ?_)
            all_goals (
              go_wp2
              go_roundg (ps.length - (j + 1))
              case measure => omega
              case rel => exact ⟨j + 1, out ++ [x] ++ [y], rest.take i, g, i, by go_num, by omega, Nat.le_refl _, by rw [List.length_take, Nat.min_eq_left (by omega)], by rw [List.length_take]; omega, by simp only [List.length_append, List.length_singleton]; omega, by rw [List.length_take]; omega, ⟨by rw [FT.out, et.out]⟩, ⟨holds_take HH8.out i (by omega) _ rfl⟩, HK8.out.2.2, HGB, ⟨Kd.R_step HO8.out (fun _ _ _ => rfl), HK8.out.2.1⟩, ⟨by with_reducible repeat first | exact HB8.out | apply below_drew1 | apply pw_below_drewN⟩⟩)
        · have hrl2 : (rest.take i ++ rest.drop (i + 1)).length = i + (rest.length - (i + 1)) := by rw [List.length_append, List.length_take, List.length_drop]; omega
          have hcne : ¬ c = i + 1 := by omega
          go_region_law (refine step_append_grows rfl (.tmp 51) (.tmp 55) 22 rfl 26 i0 (.agg #[(.int .i64 0), (.string ⟨#[]⟩), (.int .i64 0), (.int .i64 0), (.int .i64 0), (.int .i64 0), (.bool false)]) 7 64 Tryz.underlying22 hi0 hz0 hz1 hz2 rfl (by decide) (some ⟨g, 0, none⟩) i i (flatL (rest.take i)) (by simp [Act.eval, Act.put]) (by simp) (by rw [flatL_len, List.length_take]; omega) (fun b_ hb_ j_ u_ hu_ => (by cases hb_; exact cells_take HH8.out i (by omega) _ rfl j_ u_ hu_)) ⟨g, (i + 1) * 7, none⟩ (rest.length - (i + 1)) (c - (i + 1)) (flatL (rest.drop (i + 1))) (by simp [Act.eval, Act.put, hcne]) (by rw [flatL_len, List.length_drop]) (fun j_ u_ hu_ => cells_drop HH8.out (i + 1) (by omega) _ rfl j_ u_ hu_) (flat_one _) (by omega) (by simp only [maxLen]; omega) (by omega) ?_; intro v9 w9 hown hgrow; rw [flat_append] at hown; obtain ⟨g9, c9, rfl, hc9, hb9, hg9, hH9⟩ := owns_holds hown (by omega); have HN := Aside0.mk (And.intro hb9 hgrow); have HH9 := Aside0.mk hH9; clear hown hgrow hH9 hb9)
          all_goals (
            go_wp2
            go_roundg (ps.length - (j + 1))
            case measure => omega
            case rel => exact ⟨j + 1, out ++ [x] ++ [y], rest.take i ++ rest.drop (i + 1), g9, c9, by go_num, by omega, Nat.le_refl _, by rw [hrl2], by rw [hrl2]; exact hc9, by simp only [List.length_append, List.length_singleton]; omega, by rw [hrl2]; omega, FT, HH9, hg9, ⟨Nat.le_trans HB8.out.size HN.out.1⟩, ⟨Kd.R_step HO8.out (fun k _ hk => HN.out.2.block k hk (by simp)), fun e => absurd (Kd.R_lt HO8.out _ e) (Nat.not_lt.2 HN.out.1)⟩, ⟨Below.grown (by with_reducible repeat first | exact HB8.out | apply below_drew1 | apply pw_below_drewN) HN.out.2 HB8.out.size (fun k hk => by cases hk)⟩⟩)
    · obtain rfl : j = ps.length := by omega
      have hf := HF.out
      rw [List.take_length] at hf
      have HF2 := Aside0.mk hf
      have HC := Aside0.mk (row_of_holds26 HH.out (by simp; omega))
      clear hf
      go_wp2_with (first
        | ((with_reducible refine gate_builtin (b := .append) (xs := #[.tmp 58, .tmp 59]) rfl ?_); at_builtin; refine Kd.R_append_rows k26 (w0 := w) w.heap.size rfl (.tmp 58) (.tmp 59) 22 26 (.agg #[(.int .i64 0), (.string ⟨#[]⟩), (.int .i64 0), (.int .i64 0), (.int .i64 0), (.int .i64 0), (.bool false)]) 64 rfl Tryz.underlying22 info26 rfl (by decide) (by omega) u6 out rest _ _ _ (fun _ => True) (fun _ => False) rfl rfl HO.out.1 HC.out (fun _ _ h => h) (fun _ h => h.elim) (fun _ _ => trivial) HB.out HB.out.size (by omega) ?_; intro v1 w6 ho hb hg_ hat))
      go_ret
      rw [HF2.out]
      exact ⟨_, rfl, ho, hb⟩
set_option maxHeartbeats 8000000 in
set_option maxRecDepth 100000 in
theorem mixed25_nil (A0 : Option Addr) (c0 : Nat) (A1 : Option Addr) (c1 : Nat) (ps : List Int) (w : World) (hr0 : Kd.C k26 w A0 0 []) (hr1 : Kd.C (Kd.int .i64) w A1 ps.length ps) (hps : ps.length ≤ 4000) :
    Calls Tryz.prog 25 #[.slice A0 0 c0, .slice A1 ps.length c1] w fun e w' => ∃ v : Value, e = .returned v ∧ Kd.R k26 26 w' w.heap.size (fun _ => True) v [] ∧ Below w.heap.size w w' := by
  have HR0 := Aside0.mk hr0
  have HR1 := Aside0.mk hr1
  clear hr0 hr1
  go_enter Tryz.func25, Tryz.ntmps25
  go_wp2_with (first
    | ((with_reducible refine gate_dst (N := 10) rfl ?_); refine Kd.R_lit k26 (w0 := w) w.heap.size 26 ?hg (N := 10) ?hd (xs := ([] : List S26)) (inner := []) (ok := fun _ => True) (okp := fun _ => True) ?hr ?hp (fun _ hk => hk) trivial (Below.refl _ _) (Nat.le_refl _) (by simp) ?_; (case hd => rfl); (case hg => rfl); (case hr => first | (go_simp; done) | (go_simp; rfl)); (case hp => exact (Reps.none _ _)); intro v5 w5 ho hb hg_ hnew_; have HO := Aside0.mk ho; have HB := Aside0.mk hb; clear ho hb hg_ hnew_)
    | ((with_reducible refine gate_builtin (b := .append) (xs := #[.tmp 10, .tmp 11]) rfl ?_); at_builtin; refine Kd.R_append_rows k26 (w0 := w) w.heap.size rfl (.tmp 10) (.tmp 11) 22 26 (.agg #[(.int .i64 0), (.string ⟨#[]⟩), (.int .i64 0), (.int .i64 0), (.int .i64 0), (.int .i64 0), (.bool false)]) 64 rfl Tryz.underlying22 info26 rfl (by decide) (by omega) v5 [] [] _ _ _ (fun _ => True) (fun _ => False) rfl rfl HO.out (Kd.C_below HR0.out HB.out) (fun _ _ h => h) (fun _ h => h.elim) (fun _ _ => trivial) HB.out HB.out.size (by simp) ?_; intro v1 w6 ho hb hg hat; have HO6 := Aside0.mk ho; have HB6 := Aside0.mk hb; clear ho hb hg hat HO HB))
  obtain ⟨A6, c6, e6, _, hC6⟩ := Kd.R_reads HO6.out
  have HC6 := Aside0.mk hC6
  clear hC6
  subst e6
  go_loopg [5, 6, 15] ps.length (fun gg s5 s6 s15 wr => ∃ (j : Nat), s15 = .int .i64 j ∧ j ≤ ps.length ∧ ps.length - j ≤ gg ∧ s5 = .slice A6 0 c6 ∧ s6 = .slice none 0 0 ∧ wr = w6)
  case atStart => exact ⟨0, rfl, Nat.zero_le _, by omega, rfl, rfl, rfl⟩
  case round =>
    obtain ⟨j, rfl, hj, hgg, rfl, rfl, rfl⟩ := hrel
    by_cases hlt : j < ps.length
    · have hltz : (j : Int) < (ps.length : Int) := by omega
      obtain ⟨kv, hkv⟩ : ∃ kv : Int, kv = ps.getD j 0 := ⟨_, rfl⟩
      obtain ⟨ad, e1, hc⟩ := at_cut HR1.out j hlt
      subst e1
      rw [← hkv] at hc
      replace hc := (HB6.out.cell (World.block_lt_of_cell? w _ hc)).trans hc
      clear hkv
      go_wp2
      go_roundg (ps.length - (j + 1))
      case measure => omega
      case rel => exact ⟨j + 1, by go_num, by omega, Nat.le_refl _, rfl, rfl, rfl⟩
    · obtain rfl : j = ps.length := by omega
      go_wp2_with (first
        | ((with_reducible refine gate_builtin (b := .append) (xs := #[.tmp 58, .tmp 59]) rfl ?_); at_builtin; refine Kd.R_append_rows k26 (w0 := w) w.heap.size rfl (.tmp 58) (.tmp 59) 22 26 (.agg #[(.int .i64 0), (.string ⟨#[]⟩), (.int .i64 0), (.int .i64 0), (.int .i64 0), (.int .i64 0), (.bool false)]) 64 rfl Tryz.underlying22 info26 rfl (by decide) (by omega) (.slice none 0 0) [] [] _ _ _ (fun _ => True) (fun _ => False) rfl rfl (Kd.R_nil _ _ _ _ _) HC6.out (fun _ _ h => h) (fun _ h => h.elim) (fun _ _ => trivial) HB6.out HB6.out.size (by simp) ?_; intro v1 w7 ho hb hg_ hat))
      go_ret
      exact ⟨_, rfl, ho, hb⟩
def cohousinglaw16_mixed.f (l0 : List S26) (l1 : List Int) : Option (List S26) := if l0.length ≤ 4000 ∧ l1.length ≤ 4000 then some (mixL l0 l1) else none
theorem cohousinglaw16_mixed.calls (A0 : Option Addr) (c0 : Nat) (l0 : List S26) (A1 : Option Addr) (c1 : Nat) (l1 : List Int) (r : List S26) (w : World) (hr0 : Kd.C k26 w A0 l0.length l0) (hc0 : l0.length ≤ c0) (hr1 : Kd.C (Kd.int .i64) w A1 l1.length l1) (hc1 : l1.length ≤ c1) (h : cohousinglaw16_mixed.f l0 l1 = some r) :
    Calls Tryz.prog 25 #[.slice A0 l0.length c0, .slice A1 l1.length c1] w fun e w' => ∃ v0_ : Value, e = .returned (v0_) ∧ Kd.R k26 26 w' w.heap.size (fun _ => True) v0_ r ∧ Below w.heap.size w w' := by
  unfold cohousinglaw16_mixed.f at h
  split at h
  · rename_i hl
    have e := Option.some.inj h
    subst e
    unfold mixL
    by_cases h0 : l0.length = 0
    · rw [if_pos h0]
      obtain rfl := List.length_eq_zero_iff.mp h0
      exact mixed25_nil A0 c0 A1 c1 l1 w hr0 hr1 hl.2
    · rw [if_neg h0]
      exact mixed25 A0 c0 l0 A1 c1 l1 w hr0 hc0 hr1 (by omega) hl.1 hl.2
  · exact absurd h (by simp)
end
end

/-! ### cohousingref16_Before: function 26 -/
def cohousingref16_Before.f (a0_0 : Int) (a0_1 : ByteArray) (a0_2 : Int) (a0_3 : Int) (a0_4 : Int) (a0_5 : Int) (a0_6 : Bool) (a1_0 : Int) (a1_1 : ByteArray) (a1_2 : Int) (a1_3 : Int) (a1_4 : Int) (a1_5 : Int) (a1_6 : Bool) : Option (Bool) := if a0_5 = a1_5 then (if a0_0 = a1_0 then (if a0_1.toList = a1_1.toList then (if a0_3 = a1_3 then (if a0_4 = a1_4 then (if a0_2 = a1_2 then (if a0_6 = true then (some false) else (some a1_6)) else (some (decide (a0_2 < a1_2)))) else (some (decide (a0_4 < a1_4)))) else (some (decide (a0_3 < a1_3)))) else (some (Op.bytesLess a0_1.toList a1_1.toList))) else (some (decide (a0_0 < a1_0)))) else (some (decide (a0_5 < a1_5)))
set_option maxHeartbeats 8000000 in
set_option maxRecDepth 100000 in
theorem cohousingref16_Before.calls (a0_0 : Int) (a0_1 : ByteArray) (a0_2 : Int) (a0_3 : Int) (a0_4 : Int) (a0_5 : Int) (a0_6 : Bool) (a1_0 : Int) (a1_1 : ByteArray) (a1_2 : Int) (a1_3 : Int) (a1_4 : Int) (a1_5 : Int) (a1_6 : Bool) (r : Bool) (w : World) (h : cohousingref16_Before.f a0_0 a0_1 a0_2 a0_3 a0_4 a0_5 a0_6 a1_0 a1_1 a1_2 a1_3 a1_4 a1_5 a1_6 = some r) :
    Calls Tryz.prog 26 #[.agg #[.int .i64 a0_0, .string a0_1, .int .i64 a0_2, .int .i64 a0_3, .int .i64 a0_4, .int .i64 a0_5, .bool a0_6], .agg #[.int .i64 a1_0, .string a1_1, .int .i64 a1_2, .int .i64 a1_3, .int .i64 a1_4, .int .i64 a1_5, .bool a1_6]] w fun e w' => e = .returned (.bool r) ∧ Below w.heap.size w w' := by
  have hu26 := Tryz.underlying26
  have HB := Aside0.mk (Below.refl w.heap.size w)
  have H : (if a0_5 = a1_5 then (if a0_0 = a1_0 then (if a0_1.toList = a1_1.toList then (if a0_3 = a1_3 then (if a0_4 = a1_4 then (if a0_2 = a1_2 then (if a0_6 = true then (some false) else (some a1_6)) else (some (decide (a0_2 < a1_2)))) else (some (decide (a0_4 < a1_4)))) else (some (decide (a0_3 < a1_3)))) else (some (Op.bytesLess a0_1.toList a1_1.toList))) else (some (decide (a0_0 < a1_0)))) else (some (decide (a0_5 < a1_5)))) = some r := h
  clear h
  by_cases c3 : a0_5 = a1_5
  · rw [if_pos c3] at H
    have c3b0 : (a0_5 == a1_5) = true := beq_iff_eq.mpr c3
    have c3b1 : (a0_5 != a1_5) = false := bne_eq_false_iff_eq.mpr c3
    clear c3
    by_cases c4 : a0_0 = a1_0
    · rw [if_pos c4] at H
      have c4b0 : (a0_0 == a1_0) = true := beq_iff_eq.mpr c4
      have c4b1 : (a0_0 != a1_0) = false := bne_eq_false_iff_eq.mpr c4
      clear c4
      by_cases c5 : a0_1.toList = a1_1.toList
      · rw [if_pos c5] at H
        have c5b0 : (a0_1.toList == a1_1.toList) = true := beq_iff_eq.mpr c5
        have c5b1 : (a0_1.toList != a1_1.toList) = false := bne_eq_false_iff_eq.mpr c5
        clear c5
        by_cases c6 : a0_3 = a1_3
        · rw [if_pos c6] at H
          have c6b0 : (a0_3 == a1_3) = true := beq_iff_eq.mpr c6
          have c6b1 : (a0_3 != a1_3) = false := bne_eq_false_iff_eq.mpr c6
          clear c6
          by_cases c7 : a0_4 = a1_4
          · rw [if_pos c7] at H
            have c7b0 : (a0_4 == a1_4) = true := beq_iff_eq.mpr c7
            have c7b1 : (a0_4 != a1_4) = false := bne_eq_false_iff_eq.mpr c7
            clear c7
            by_cases c8 : a0_2 = a1_2
            · rw [if_pos c8] at H
              have c8b0 : (a0_2 == a1_2) = true := beq_iff_eq.mpr c8
              have c8b1 : (a0_2 != a1_2) = false := bne_eq_false_iff_eq.mpr c8
              clear c8
              by_cases c9 : a0_6 = true
              · subst c9
                have H1 : (some false) = some r := by rw [if_pos rfl] at H; exact H
                clear H
                have H := H1
                clear H1
                obtain rfl := Option.some.inj H
                go_enter Tryz.func26, Tryz.ntmps26
                go_wp2_with (first | ((with_reducible refine gate_dst (N := 2) rfl ?_); refine box_event ?hg (N := 2) ?hd (cs := #[.int .i64 a0_0, .string a0_1, .int .i64 a0_2, .int .i64 a0_3, .int .i64 a0_4, .int .i64 a0_5, .bool true]) (t := 26) ?hr ?_; (case hd => rfl); (case hg => rfl); (case hr => first | (go_simp; done) | (go_simp; rfl)); intro gb278 hg w10 hbox hb; have n0_ := Aside0.mk (below_step (by repeat (first | (with_reducible first | exact HB.out | apply below_alloc | apply pw_below_drewN | apply below_drew1) | exact HB.out)) hb); have n1_ := Aside0.mk (hbox); have n2_ := Aside0.mk ((by rw [hg]; exact (below_size (by repeat (first | (with_reducible first | exact HB.out | apply below_alloc | apply pw_below_drewN | apply below_drew1) | exact HB.out))) : w.heap.size ≤ gb278)); have n3_ := Aside0.mk ((by rw [hg]; exact (below_size (by repeat (first | (with_reducible first | exact HB.out | apply below_alloc | apply pw_below_drewN | apply below_drew1) | exact HB.out))) : w.heap.size ≤ gb278)); clear HB; have HB := n0_; have BK278 := n1_; have GW278 := n2_; have GE278 := n3_; clear n0_ n1_ n2_ n3_; clear hb hbox hg) | ((with_reducible refine gate_dst (N := 3) rfl ?_); refine box_event ?hg (N := 3) ?hd (cs := #[.int .i64 a1_0, .string a1_1, .int .i64 a1_2, .int .i64 a1_3, .int .i64 a1_4, .int .i64 a1_5, .bool a1_6]) (t := 26) ?hr ?_; (case hd => rfl); (case hg => rfl); (case hr => first | (go_simp; done) | (go_simp; rfl)); intro gb279 hg w11 hbox hb; have n0_ := Aside0.mk (blk_below (g := gb278) (o := .cells #[.int .i64 a0_0, .string a0_1, .int .i64 a0_2, .int .i64 a0_3, .int .i64 a0_4, .int .i64 a0_5, .bool true] 26 (0, 0)) (by (with_reducible repeat (first | refine blk_drewN ?_ _ | refine blk_drew ?_ | refine blk_alloc ?_ _)); exact BK278.out) hb); have n1_ := Aside0.mk (below_step (by repeat (first | (with_reducible first | exact HB.out | apply below_alloc | apply pw_below_drewN | apply below_drew1 | refine below_set ?_ GE278.out) | exact HB.out)) hb); have n2_ := Aside0.mk (hbox); have n3_ := Aside0.mk ((by rw [hg]; exact (below_size (by repeat (first | (with_reducible first | exact HB.out | apply below_alloc | apply pw_below_drewN | apply below_drew1 | refine below_set ?_ GE278.out) | exact HB.out))) : w.heap.size ≤ gb279)); have n4_ := Aside0.mk ((by rw [hg]; exact (below_size (by repeat (first | (with_reducible first | exact HB.out | apply below_alloc | apply pw_below_drewN | apply below_drew1 | refine below_set ?_ GE278.out) | exact HB.out))) : w.heap.size ≤ gb279)); have n5_ := Aside0.mk ((by rw [hg]; exact Nat.ne_of_lt (blk_lt (g := gb278) (o := .cells #[.int .i64 a0_0, .string a0_1, .int .i64 a0_2, .int .i64 a0_3, .int .i64 a0_4, .int .i64 a0_5, .bool true] 26 (0, 0)) (by (with_reducible repeat (first | refine blk_drewN ?_ _ | refine blk_drew ?_ | refine blk_alloc ?_ _)); exact BK278.out)) : gb278 ≠ gb279)); have n6_ := Aside0.mk ((by rw [hg]; exact Nat.ne_of_gt (blk_lt (g := gb278) (o := .cells #[.int .i64 a0_0, .string a0_1, .int .i64 a0_2, .int .i64 a0_3, .int .i64 a0_4, .int .i64 a0_5, .bool true] 26 (0, 0)) (by (with_reducible repeat (first | refine blk_drewN ?_ _ | refine blk_drew ?_ | refine blk_alloc ?_ _)); exact BK278.out)) : gb279 ≠ gb278)); clear BK278; clear HB; have BK278 := n0_; have HB := n1_; have BK279 := n2_; have GW279 := n3_; have GE279 := n4_; have NB278_279 := n5_; have NB279_278 := n6_; clear n0_ n1_ n2_ n3_ n4_ n5_ n6_; clear hb hbox hg; have hnb12 := NB278_279.out; have hnc12 := NB279_278.out; have hcz13_0 : w11.cell? ⟨gb278, 0, none⟩ = some (.int .i64 a0_0) := (blk_cell BK278.out 0).trans rfl; have hcz13_1 : w11.cell? ⟨gb278, 1, none⟩ = some (.string a0_1) := (blk_cell BK278.out 1).trans rfl; have hcz13_2 : w11.cell? ⟨gb278, 2, none⟩ = some (.int .i64 a0_2) := (blk_cell BK278.out 2).trans rfl; have hcz13_3 : w11.cell? ⟨gb278, 3, none⟩ = some (.int .i64 a0_3) := (blk_cell BK278.out 3).trans rfl; have hcz13_4 : w11.cell? ⟨gb278, 4, none⟩ = some (.int .i64 a0_4) := (blk_cell BK278.out 4).trans rfl; have hcz13_5 : w11.cell? ⟨gb278, 5, none⟩ = some (.int .i64 a0_5) := (blk_cell BK278.out 5).trans rfl; have hcz13_6 : w11.cell? ⟨gb278, 6, none⟩ = some (.bool true) := (blk_cell BK278.out 6).trans rfl; have hfz13_0 := blk_frozen BK278.out 0; have hfz13_1 := blk_frozen BK278.out 1; have hfz13_2 := blk_frozen BK278.out 2; have hfz13_3 := blk_frozen BK278.out 3; have hfz13_4 := blk_frozen BK278.out 4; have hfz13_5 := blk_frozen BK278.out 5; have hfz13_6 := blk_frozen BK278.out 6; have hcz14_0 : w11.cell? ⟨gb279, 0, none⟩ = some (.int .i64 a1_0) := (blk_cell BK279.out 0).trans rfl; have hcz14_1 : w11.cell? ⟨gb279, 1, none⟩ = some (.string a1_1) := (blk_cell BK279.out 1).trans rfl; have hcz14_2 : w11.cell? ⟨gb279, 2, none⟩ = some (.int .i64 a1_2) := (blk_cell BK279.out 2).trans rfl; have hcz14_3 : w11.cell? ⟨gb279, 3, none⟩ = some (.int .i64 a1_3) := (blk_cell BK279.out 3).trans rfl; have hcz14_4 : w11.cell? ⟨gb279, 4, none⟩ = some (.int .i64 a1_4) := (blk_cell BK279.out 4).trans rfl; have hcz14_5 : w11.cell? ⟨gb279, 5, none⟩ = some (.int .i64 a1_5) := (blk_cell BK279.out 5).trans rfl; have hcz14_6 : w11.cell? ⟨gb279, 6, none⟩ = some (.bool a1_6) := (blk_cell BK279.out 6).trans rfl; have hfz14_0 := blk_frozen BK279.out 0; have hfz14_1 := blk_frozen BK279.out 1; have hfz14_2 := blk_frozen BK279.out 2; have hfz14_3 := blk_frozen BK279.out 3; have hfz14_4 := blk_frozen BK279.out 4; have hfz14_5 := blk_frozen BK279.out 5; have hfz14_6 := blk_frozen BK279.out 6))
                go_ret
                exact ⟨by first | rfl | (simp [errW_none, errW_some] <;> rfl) | (simp [*, errW_none, errW_some] <;> rfl), by repeat (first | (with_reducible first | exact HB.out | apply below_alloc | apply pw_below_drewN | apply below_drew1 | refine below_set ?_ GE278.out | refine below_set ?_ GE279.out) | exact HB.out)⟩
              · replace c9 := Bool.eq_false_iff.mpr c9
                subst c9
                have H1 : (some a1_6) = some r := by rw [if_neg (show ¬ (false = true) by decide)] at H; exact H
                clear H
                have H := H1
                clear H1
                obtain rfl := Option.some.inj H
                go_enter Tryz.func26, Tryz.ntmps26
                go_wp2_with (first | ((with_reducible refine gate_dst (N := 2) rfl ?_); refine box_event ?hg (N := 2) ?hd (cs := #[.int .i64 a0_0, .string a0_1, .int .i64 a0_2, .int .i64 a0_3, .int .i64 a0_4, .int .i64 a0_5, .bool false]) (t := 26) ?hr ?_; (case hd => rfl); (case hg => rfl); (case hr => first | (go_simp; done) | (go_simp; rfl)); intro gb278 hg w15 hbox hb; have n0_ := Aside0.mk (below_step (by repeat (first | (with_reducible first | exact HB.out | apply below_alloc | apply pw_below_drewN | apply below_drew1) | exact HB.out)) hb); have n1_ := Aside0.mk (hbox); have n2_ := Aside0.mk ((by rw [hg]; exact (below_size (by repeat (first | (with_reducible first | exact HB.out | apply below_alloc | apply pw_below_drewN | apply below_drew1) | exact HB.out))) : w.heap.size ≤ gb278)); have n3_ := Aside0.mk ((by rw [hg]; exact (below_size (by repeat (first | (with_reducible first | exact HB.out | apply below_alloc | apply pw_below_drewN | apply below_drew1) | exact HB.out))) : w.heap.size ≤ gb278)); clear HB; have HB := n0_; have BK278 := n1_; have GW278 := n2_; have GE278 := n3_; clear n0_ n1_ n2_ n3_; clear hb hbox hg) | ((with_reducible refine gate_dst (N := 3) rfl ?_); refine box_event ?hg (N := 3) ?hd (cs := #[.int .i64 a1_0, .string a1_1, .int .i64 a1_2, .int .i64 a1_3, .int .i64 a1_4, .int .i64 a1_5, .bool a1_6]) (t := 26) ?hr ?_; (case hd => rfl); (case hg => rfl); (case hr => first | (go_simp; done) | (go_simp; rfl)); intro gb279 hg w16 hbox hb; have n0_ := Aside0.mk (blk_below (g := gb278) (o := .cells #[.int .i64 a0_0, .string a0_1, .int .i64 a0_2, .int .i64 a0_3, .int .i64 a0_4, .int .i64 a0_5, .bool false] 26 (0, 0)) (by (with_reducible repeat (first | refine blk_drewN ?_ _ | refine blk_drew ?_ | refine blk_alloc ?_ _)); exact BK278.out) hb); have n1_ := Aside0.mk (below_step (by repeat (first | (with_reducible first | exact HB.out | apply below_alloc | apply pw_below_drewN | apply below_drew1 | refine below_set ?_ GE278.out) | exact HB.out)) hb); have n2_ := Aside0.mk (hbox); have n3_ := Aside0.mk ((by rw [hg]; exact (below_size (by repeat (first | (with_reducible first | exact HB.out | apply below_alloc | apply pw_below_drewN | apply below_drew1 | refine below_set ?_ GE278.out) | exact HB.out))) : w.heap.size ≤ gb279)); have n4_ := Aside0.mk ((by rw [hg]; exact (below_size (by repeat (first | (with_reducible first | exact HB.out | apply below_alloc | apply pw_below_drewN | apply below_drew1 | refine below_set ?_ GE278.out) | exact HB.out))) : w.heap.size ≤ gb279)); have n5_ := Aside0.mk ((by rw [hg]; exact Nat.ne_of_lt (blk_lt (g := gb278) (o := .cells #[.int .i64 a0_0, .string a0_1, .int .i64 a0_2, .int .i64 a0_3, .int .i64 a0_4, .int .i64 a0_5, .bool false] 26 (0, 0)) (by (with_reducible repeat (first | refine blk_drewN ?_ _ | refine blk_drew ?_ | refine blk_alloc ?_ _)); exact BK278.out)) : gb278 ≠ gb279)); have n6_ := Aside0.mk ((by rw [hg]; exact Nat.ne_of_gt (blk_lt (g := gb278) (o := .cells #[.int .i64 a0_0, .string a0_1, .int .i64 a0_2, .int .i64 a0_3, .int .i64 a0_4, .int .i64 a0_5, .bool false] 26 (0, 0)) (by (with_reducible repeat (first | refine blk_drewN ?_ _ | refine blk_drew ?_ | refine blk_alloc ?_ _)); exact BK278.out)) : gb279 ≠ gb278)); clear BK278; clear HB; have BK278 := n0_; have HB := n1_; have BK279 := n2_; have GW279 := n3_; have GE279 := n4_; have NB278_279 := n5_; have NB279_278 := n6_; clear n0_ n1_ n2_ n3_ n4_ n5_ n6_; clear hb hbox hg; have hnb17 := NB278_279.out; have hnc17 := NB279_278.out; have hcz18_0 : w16.cell? ⟨gb278, 0, none⟩ = some (.int .i64 a0_0) := (blk_cell BK278.out 0).trans rfl; have hcz18_1 : w16.cell? ⟨gb278, 1, none⟩ = some (.string a0_1) := (blk_cell BK278.out 1).trans rfl; have hcz18_2 : w16.cell? ⟨gb278, 2, none⟩ = some (.int .i64 a0_2) := (blk_cell BK278.out 2).trans rfl; have hcz18_3 : w16.cell? ⟨gb278, 3, none⟩ = some (.int .i64 a0_3) := (blk_cell BK278.out 3).trans rfl; have hcz18_4 : w16.cell? ⟨gb278, 4, none⟩ = some (.int .i64 a0_4) := (blk_cell BK278.out 4).trans rfl; have hcz18_5 : w16.cell? ⟨gb278, 5, none⟩ = some (.int .i64 a0_5) := (blk_cell BK278.out 5).trans rfl; have hcz18_6 : w16.cell? ⟨gb278, 6, none⟩ = some (.bool false) := (blk_cell BK278.out 6).trans rfl; have hfz18_0 := blk_frozen BK278.out 0; have hfz18_1 := blk_frozen BK278.out 1; have hfz18_2 := blk_frozen BK278.out 2; have hfz18_3 := blk_frozen BK278.out 3; have hfz18_4 := blk_frozen BK278.out 4; have hfz18_5 := blk_frozen BK278.out 5; have hfz18_6 := blk_frozen BK278.out 6; have hcz19_0 : w16.cell? ⟨gb279, 0, none⟩ = some (.int .i64 a1_0) := (blk_cell BK279.out 0).trans rfl; have hcz19_1 : w16.cell? ⟨gb279, 1, none⟩ = some (.string a1_1) := (blk_cell BK279.out 1).trans rfl; have hcz19_2 : w16.cell? ⟨gb279, 2, none⟩ = some (.int .i64 a1_2) := (blk_cell BK279.out 2).trans rfl; have hcz19_3 : w16.cell? ⟨gb279, 3, none⟩ = some (.int .i64 a1_3) := (blk_cell BK279.out 3).trans rfl; have hcz19_4 : w16.cell? ⟨gb279, 4, none⟩ = some (.int .i64 a1_4) := (blk_cell BK279.out 4).trans rfl; have hcz19_5 : w16.cell? ⟨gb279, 5, none⟩ = some (.int .i64 a1_5) := (blk_cell BK279.out 5).trans rfl; have hcz19_6 : w16.cell? ⟨gb279, 6, none⟩ = some (.bool a1_6) := (blk_cell BK279.out 6).trans rfl; have hfz19_0 := blk_frozen BK279.out 0; have hfz19_1 := blk_frozen BK279.out 1; have hfz19_2 := blk_frozen BK279.out 2; have hfz19_3 := blk_frozen BK279.out 3; have hfz19_4 := blk_frozen BK279.out 4; have hfz19_5 := blk_frozen BK279.out 5; have hfz19_6 := blk_frozen BK279.out 6))
                go_ret
                exact ⟨by first | rfl | (simp [errW_none, errW_some] <;> rfl) | (simp [*, errW_none, errW_some] <;> rfl), by repeat (first | (with_reducible first | exact HB.out | apply below_alloc | apply pw_below_drewN | apply below_drew1 | refine below_set ?_ GE278.out | refine below_set ?_ GE279.out) | exact HB.out)⟩
            · rw [if_neg c8] at H
              have c8b0 : (a0_2 == a1_2) = false := beq_eq_false_iff_ne.mpr c8
              have c8b1 : (a0_2 != a1_2) = true := bne_iff_ne.mpr c8
              obtain rfl := Option.some.inj H
              go_enter Tryz.func26, Tryz.ntmps26
              go_wp2_with (first | ((with_reducible refine gate_dst (N := 2) rfl ?_); refine box_event ?hg (N := 2) ?hd (cs := #[.int .i64 a0_0, .string a0_1, .int .i64 a0_2, .int .i64 a0_3, .int .i64 a0_4, .int .i64 a0_5, .bool a0_6]) (t := 26) ?hr ?_; (case hd => rfl); (case hg => rfl); (case hr => first | (go_simp; done) | (go_simp; rfl)); intro gb278 hg w20 hbox hb; have n0_ := Aside0.mk (below_step (by repeat (first | (with_reducible first | exact HB.out | apply below_alloc | apply pw_below_drewN | apply below_drew1) | exact HB.out)) hb); have n1_ := Aside0.mk (hbox); have n2_ := Aside0.mk ((by rw [hg]; exact (below_size (by repeat (first | (with_reducible first | exact HB.out | apply below_alloc | apply pw_below_drewN | apply below_drew1) | exact HB.out))) : w.heap.size ≤ gb278)); have n3_ := Aside0.mk ((by rw [hg]; exact (below_size (by repeat (first | (with_reducible first | exact HB.out | apply below_alloc | apply pw_below_drewN | apply below_drew1) | exact HB.out))) : w.heap.size ≤ gb278)); clear HB; have HB := n0_; have BK278 := n1_; have GW278 := n2_; have GE278 := n3_; clear n0_ n1_ n2_ n3_; clear hb hbox hg) | ((with_reducible refine gate_dst (N := 3) rfl ?_); refine box_event ?hg (N := 3) ?hd (cs := #[.int .i64 a1_0, .string a1_1, .int .i64 a1_2, .int .i64 a1_3, .int .i64 a1_4, .int .i64 a1_5, .bool a1_6]) (t := 26) ?hr ?_; (case hd => rfl); (case hg => rfl); (case hr => first | (go_simp; done) | (go_simp; rfl)); intro gb279 hg w21 hbox hb; have n0_ := Aside0.mk (blk_below (g := gb278) (o := .cells #[.int .i64 a0_0, .string a0_1, .int .i64 a0_2, .int .i64 a0_3, .int .i64 a0_4, .int .i64 a0_5, .bool a0_6] 26 (0, 0)) (by (with_reducible repeat (first | refine blk_drewN ?_ _ | refine blk_drew ?_ | refine blk_alloc ?_ _)); exact BK278.out) hb); have n1_ := Aside0.mk (below_step (by repeat (first | (with_reducible first | exact HB.out | apply below_alloc | apply pw_below_drewN | apply below_drew1 | refine below_set ?_ GE278.out) | exact HB.out)) hb); have n2_ := Aside0.mk (hbox); have n3_ := Aside0.mk ((by rw [hg]; exact (below_size (by repeat (first | (with_reducible first | exact HB.out | apply below_alloc | apply pw_below_drewN | apply below_drew1 | refine below_set ?_ GE278.out) | exact HB.out))) : w.heap.size ≤ gb279)); have n4_ := Aside0.mk ((by rw [hg]; exact (below_size (by repeat (first | (with_reducible first | exact HB.out | apply below_alloc | apply pw_below_drewN | apply below_drew1 | refine below_set ?_ GE278.out) | exact HB.out))) : w.heap.size ≤ gb279)); have n5_ := Aside0.mk ((by rw [hg]; exact Nat.ne_of_lt (blk_lt (g := gb278) (o := .cells #[.int .i64 a0_0, .string a0_1, .int .i64 a0_2, .int .i64 a0_3, .int .i64 a0_4, .int .i64 a0_5, .bool a0_6] 26 (0, 0)) (by (with_reducible repeat (first | refine blk_drewN ?_ _ | refine blk_drew ?_ | refine blk_alloc ?_ _)); exact BK278.out)) : gb278 ≠ gb279)); have n6_ := Aside0.mk ((by rw [hg]; exact Nat.ne_of_gt (blk_lt (g := gb278) (o := .cells #[.int .i64 a0_0, .string a0_1, .int .i64 a0_2, .int .i64 a0_3, .int .i64 a0_4, .int .i64 a0_5, .bool a0_6] 26 (0, 0)) (by (with_reducible repeat (first | refine blk_drewN ?_ _ | refine blk_drew ?_ | refine blk_alloc ?_ _)); exact BK278.out)) : gb279 ≠ gb278)); clear BK278; clear HB; have BK278 := n0_; have HB := n1_; have BK279 := n2_; have GW279 := n3_; have GE279 := n4_; have NB278_279 := n5_; have NB279_278 := n6_; clear n0_ n1_ n2_ n3_ n4_ n5_ n6_; clear hb hbox hg; have hnb22 := NB278_279.out; have hnc22 := NB279_278.out; have hcz23_0 : w21.cell? ⟨gb278, 0, none⟩ = some (.int .i64 a0_0) := (blk_cell BK278.out 0).trans rfl; have hcz23_1 : w21.cell? ⟨gb278, 1, none⟩ = some (.string a0_1) := (blk_cell BK278.out 1).trans rfl; have hcz23_2 : w21.cell? ⟨gb278, 2, none⟩ = some (.int .i64 a0_2) := (blk_cell BK278.out 2).trans rfl; have hcz23_3 : w21.cell? ⟨gb278, 3, none⟩ = some (.int .i64 a0_3) := (blk_cell BK278.out 3).trans rfl; have hcz23_4 : w21.cell? ⟨gb278, 4, none⟩ = some (.int .i64 a0_4) := (blk_cell BK278.out 4).trans rfl; have hcz23_5 : w21.cell? ⟨gb278, 5, none⟩ = some (.int .i64 a0_5) := (blk_cell BK278.out 5).trans rfl; have hcz23_6 : w21.cell? ⟨gb278, 6, none⟩ = some (.bool a0_6) := (blk_cell BK278.out 6).trans rfl; have hfz23_0 := blk_frozen BK278.out 0; have hfz23_1 := blk_frozen BK278.out 1; have hfz23_2 := blk_frozen BK278.out 2; have hfz23_3 := blk_frozen BK278.out 3; have hfz23_4 := blk_frozen BK278.out 4; have hfz23_5 := blk_frozen BK278.out 5; have hfz23_6 := blk_frozen BK278.out 6; have hcz24_0 : w21.cell? ⟨gb279, 0, none⟩ = some (.int .i64 a1_0) := (blk_cell BK279.out 0).trans rfl; have hcz24_1 : w21.cell? ⟨gb279, 1, none⟩ = some (.string a1_1) := (blk_cell BK279.out 1).trans rfl; have hcz24_2 : w21.cell? ⟨gb279, 2, none⟩ = some (.int .i64 a1_2) := (blk_cell BK279.out 2).trans rfl; have hcz24_3 : w21.cell? ⟨gb279, 3, none⟩ = some (.int .i64 a1_3) := (blk_cell BK279.out 3).trans rfl; have hcz24_4 : w21.cell? ⟨gb279, 4, none⟩ = some (.int .i64 a1_4) := (blk_cell BK279.out 4).trans rfl; have hcz24_5 : w21.cell? ⟨gb279, 5, none⟩ = some (.int .i64 a1_5) := (blk_cell BK279.out 5).trans rfl; have hcz24_6 : w21.cell? ⟨gb279, 6, none⟩ = some (.bool a1_6) := (blk_cell BK279.out 6).trans rfl; have hfz24_0 := blk_frozen BK279.out 0; have hfz24_1 := blk_frozen BK279.out 1; have hfz24_2 := blk_frozen BK279.out 2; have hfz24_3 := blk_frozen BK279.out 3; have hfz24_4 := blk_frozen BK279.out 4; have hfz24_5 := blk_frozen BK279.out 5; have hfz24_6 := blk_frozen BK279.out 6))
              go_ret
              exact ⟨by first | rfl | (simp [errW_none, errW_some] <;> rfl) | (simp [*, errW_none, errW_some] <;> rfl), by repeat (first | (with_reducible first | exact HB.out | apply below_alloc | apply pw_below_drewN | apply below_drew1 | refine below_set ?_ GE278.out | refine below_set ?_ GE279.out) | exact HB.out)⟩
          · rw [if_neg c7] at H
            have c7b0 : (a0_4 == a1_4) = false := beq_eq_false_iff_ne.mpr c7
            have c7b1 : (a0_4 != a1_4) = true := bne_iff_ne.mpr c7
            obtain rfl := Option.some.inj H
            go_enter Tryz.func26, Tryz.ntmps26
            go_wp2_with (first | ((with_reducible refine gate_dst (N := 2) rfl ?_); refine box_event ?hg (N := 2) ?hd (cs := #[.int .i64 a0_0, .string a0_1, .int .i64 a0_2, .int .i64 a0_3, .int .i64 a0_4, .int .i64 a0_5, .bool a0_6]) (t := 26) ?hr ?_; (case hd => rfl); (case hg => rfl); (case hr => first | (go_simp; done) | (go_simp; rfl)); intro gb278 hg w25 hbox hb; have n0_ := Aside0.mk (below_step (by repeat (first | (with_reducible first | exact HB.out | apply below_alloc | apply pw_below_drewN | apply below_drew1) | exact HB.out)) hb); have n1_ := Aside0.mk (hbox); have n2_ := Aside0.mk ((by rw [hg]; exact (below_size (by repeat (first | (with_reducible first | exact HB.out | apply below_alloc | apply pw_below_drewN | apply below_drew1) | exact HB.out))) : w.heap.size ≤ gb278)); have n3_ := Aside0.mk ((by rw [hg]; exact (below_size (by repeat (first | (with_reducible first | exact HB.out | apply below_alloc | apply pw_below_drewN | apply below_drew1) | exact HB.out))) : w.heap.size ≤ gb278)); clear HB; have HB := n0_; have BK278 := n1_; have GW278 := n2_; have GE278 := n3_; clear n0_ n1_ n2_ n3_; clear hb hbox hg) | ((with_reducible refine gate_dst (N := 3) rfl ?_); refine box_event ?hg (N := 3) ?hd (cs := #[.int .i64 a1_0, .string a1_1, .int .i64 a1_2, .int .i64 a1_3, .int .i64 a1_4, .int .i64 a1_5, .bool a1_6]) (t := 26) ?hr ?_; (case hd => rfl); (case hg => rfl); (case hr => first | (go_simp; done) | (go_simp; rfl)); intro gb279 hg w26 hbox hb; have n0_ := Aside0.mk (blk_below (g := gb278) (o := .cells #[.int .i64 a0_0, .string a0_1, .int .i64 a0_2, .int .i64 a0_3, .int .i64 a0_4, .int .i64 a0_5, .bool a0_6] 26 (0, 0)) (by (with_reducible repeat (first | refine blk_drewN ?_ _ | refine blk_drew ?_ | refine blk_alloc ?_ _)); exact BK278.out) hb); have n1_ := Aside0.mk (below_step (by repeat (first | (with_reducible first | exact HB.out | apply below_alloc | apply pw_below_drewN | apply below_drew1 | refine below_set ?_ GE278.out) | exact HB.out)) hb); have n2_ := Aside0.mk (hbox); have n3_ := Aside0.mk ((by rw [hg]; exact (below_size (by repeat (first | (with_reducible first | exact HB.out | apply below_alloc | apply pw_below_drewN | apply below_drew1 | refine below_set ?_ GE278.out) | exact HB.out))) : w.heap.size ≤ gb279)); have n4_ := Aside0.mk ((by rw [hg]; exact (below_size (by repeat (first | (with_reducible first | exact HB.out | apply below_alloc | apply pw_below_drewN | apply below_drew1 | refine below_set ?_ GE278.out) | exact HB.out))) : w.heap.size ≤ gb279)); have n5_ := Aside0.mk ((by rw [hg]; exact Nat.ne_of_lt (blk_lt (g := gb278) (o := .cells #[.int .i64 a0_0, .string a0_1, .int .i64 a0_2, .int .i64 a0_3, .int .i64 a0_4, .int .i64 a0_5, .bool a0_6] 26 (0, 0)) (by (with_reducible repeat (first | refine blk_drewN ?_ _ | refine blk_drew ?_ | refine blk_alloc ?_ _)); exact BK278.out)) : gb278 ≠ gb279)); have n6_ := Aside0.mk ((by rw [hg]; exact Nat.ne_of_gt (blk_lt (g := gb278) (o := .cells #[.int .i64 a0_0, .string a0_1, .int .i64 a0_2, .int .i64 a0_3, .int .i64 a0_4, .int .i64 a0_5, .bool a0_6] 26 (0, 0)) (by (with_reducible repeat (first | refine blk_drewN ?_ _ | refine blk_drew ?_ | refine blk_alloc ?_ _)); exact BK278.out)) : gb279 ≠ gb278)); clear BK278; clear HB; have BK278 := n0_; have HB := n1_; have BK279 := n2_; have GW279 := n3_; have GE279 := n4_; have NB278_279 := n5_; have NB279_278 := n6_; clear n0_ n1_ n2_ n3_ n4_ n5_ n6_; clear hb hbox hg; have hnb27 := NB278_279.out; have hnc27 := NB279_278.out; have hcz28_0 : w26.cell? ⟨gb278, 0, none⟩ = some (.int .i64 a0_0) := (blk_cell BK278.out 0).trans rfl; have hcz28_1 : w26.cell? ⟨gb278, 1, none⟩ = some (.string a0_1) := (blk_cell BK278.out 1).trans rfl; have hcz28_2 : w26.cell? ⟨gb278, 2, none⟩ = some (.int .i64 a0_2) := (blk_cell BK278.out 2).trans rfl; have hcz28_3 : w26.cell? ⟨gb278, 3, none⟩ = some (.int .i64 a0_3) := (blk_cell BK278.out 3).trans rfl; have hcz28_4 : w26.cell? ⟨gb278, 4, none⟩ = some (.int .i64 a0_4) := (blk_cell BK278.out 4).trans rfl; have hcz28_5 : w26.cell? ⟨gb278, 5, none⟩ = some (.int .i64 a0_5) := (blk_cell BK278.out 5).trans rfl; have hcz28_6 : w26.cell? ⟨gb278, 6, none⟩ = some (.bool a0_6) := (blk_cell BK278.out 6).trans rfl; have hfz28_0 := blk_frozen BK278.out 0; have hfz28_1 := blk_frozen BK278.out 1; have hfz28_2 := blk_frozen BK278.out 2; have hfz28_3 := blk_frozen BK278.out 3; have hfz28_4 := blk_frozen BK278.out 4; have hfz28_5 := blk_frozen BK278.out 5; have hfz28_6 := blk_frozen BK278.out 6; have hcz29_0 : w26.cell? ⟨gb279, 0, none⟩ = some (.int .i64 a1_0) := (blk_cell BK279.out 0).trans rfl; have hcz29_1 : w26.cell? ⟨gb279, 1, none⟩ = some (.string a1_1) := (blk_cell BK279.out 1).trans rfl; have hcz29_2 : w26.cell? ⟨gb279, 2, none⟩ = some (.int .i64 a1_2) := (blk_cell BK279.out 2).trans rfl; have hcz29_3 : w26.cell? ⟨gb279, 3, none⟩ = some (.int .i64 a1_3) := (blk_cell BK279.out 3).trans rfl; have hcz29_4 : w26.cell? ⟨gb279, 4, none⟩ = some (.int .i64 a1_4) := (blk_cell BK279.out 4).trans rfl; have hcz29_5 : w26.cell? ⟨gb279, 5, none⟩ = some (.int .i64 a1_5) := (blk_cell BK279.out 5).trans rfl; have hcz29_6 : w26.cell? ⟨gb279, 6, none⟩ = some (.bool a1_6) := (blk_cell BK279.out 6).trans rfl; have hfz29_0 := blk_frozen BK279.out 0; have hfz29_1 := blk_frozen BK279.out 1; have hfz29_2 := blk_frozen BK279.out 2; have hfz29_3 := blk_frozen BK279.out 3; have hfz29_4 := blk_frozen BK279.out 4; have hfz29_5 := blk_frozen BK279.out 5; have hfz29_6 := blk_frozen BK279.out 6))
            go_ret
            exact ⟨by first | rfl | (simp [errW_none, errW_some] <;> rfl) | (simp [*, errW_none, errW_some] <;> rfl), by repeat (first | (with_reducible first | exact HB.out | apply below_alloc | apply pw_below_drewN | apply below_drew1 | refine below_set ?_ GE278.out | refine below_set ?_ GE279.out) | exact HB.out)⟩
        · rw [if_neg c6] at H
          have c6b0 : (a0_3 == a1_3) = false := beq_eq_false_iff_ne.mpr c6
          have c6b1 : (a0_3 != a1_3) = true := bne_iff_ne.mpr c6
          obtain rfl := Option.some.inj H
          go_enter Tryz.func26, Tryz.ntmps26
          go_wp2_with (first | ((with_reducible refine gate_dst (N := 2) rfl ?_); refine box_event ?hg (N := 2) ?hd (cs := #[.int .i64 a0_0, .string a0_1, .int .i64 a0_2, .int .i64 a0_3, .int .i64 a0_4, .int .i64 a0_5, .bool a0_6]) (t := 26) ?hr ?_; (case hd => rfl); (case hg => rfl); (case hr => first | (go_simp; done) | (go_simp; rfl)); intro gb278 hg w30 hbox hb; have n0_ := Aside0.mk (below_step (by repeat (first | (with_reducible first | exact HB.out | apply below_alloc | apply pw_below_drewN | apply below_drew1) | exact HB.out)) hb); have n1_ := Aside0.mk (hbox); have n2_ := Aside0.mk ((by rw [hg]; exact (below_size (by repeat (first | (with_reducible first | exact HB.out | apply below_alloc | apply pw_below_drewN | apply below_drew1) | exact HB.out))) : w.heap.size ≤ gb278)); have n3_ := Aside0.mk ((by rw [hg]; exact (below_size (by repeat (first | (with_reducible first | exact HB.out | apply below_alloc | apply pw_below_drewN | apply below_drew1) | exact HB.out))) : w.heap.size ≤ gb278)); clear HB; have HB := n0_; have BK278 := n1_; have GW278 := n2_; have GE278 := n3_; clear n0_ n1_ n2_ n3_; clear hb hbox hg) | ((with_reducible refine gate_dst (N := 3) rfl ?_); refine box_event ?hg (N := 3) ?hd (cs := #[.int .i64 a1_0, .string a1_1, .int .i64 a1_2, .int .i64 a1_3, .int .i64 a1_4, .int .i64 a1_5, .bool a1_6]) (t := 26) ?hr ?_; (case hd => rfl); (case hg => rfl); (case hr => first | (go_simp; done) | (go_simp; rfl)); intro gb279 hg w31 hbox hb; have n0_ := Aside0.mk (blk_below (g := gb278) (o := .cells #[.int .i64 a0_0, .string a0_1, .int .i64 a0_2, .int .i64 a0_3, .int .i64 a0_4, .int .i64 a0_5, .bool a0_6] 26 (0, 0)) (by (with_reducible repeat (first | refine blk_drewN ?_ _ | refine blk_drew ?_ | refine blk_alloc ?_ _)); exact BK278.out) hb); have n1_ := Aside0.mk (below_step (by repeat (first | (with_reducible first | exact HB.out | apply below_alloc | apply pw_below_drewN | apply below_drew1 | refine below_set ?_ GE278.out) | exact HB.out)) hb); have n2_ := Aside0.mk (hbox); have n3_ := Aside0.mk ((by rw [hg]; exact (below_size (by repeat (first | (with_reducible first | exact HB.out | apply below_alloc | apply pw_below_drewN | apply below_drew1 | refine below_set ?_ GE278.out) | exact HB.out))) : w.heap.size ≤ gb279)); have n4_ := Aside0.mk ((by rw [hg]; exact (below_size (by repeat (first | (with_reducible first | exact HB.out | apply below_alloc | apply pw_below_drewN | apply below_drew1 | refine below_set ?_ GE278.out) | exact HB.out))) : w.heap.size ≤ gb279)); have n5_ := Aside0.mk ((by rw [hg]; exact Nat.ne_of_lt (blk_lt (g := gb278) (o := .cells #[.int .i64 a0_0, .string a0_1, .int .i64 a0_2, .int .i64 a0_3, .int .i64 a0_4, .int .i64 a0_5, .bool a0_6] 26 (0, 0)) (by (with_reducible repeat (first | refine blk_drewN ?_ _ | refine blk_drew ?_ | refine blk_alloc ?_ _)); exact BK278.out)) : gb278 ≠ gb279)); have n6_ := Aside0.mk ((by rw [hg]; exact Nat.ne_of_gt (blk_lt (g := gb278) (o := .cells #[.int .i64 a0_0, .string a0_1, .int .i64 a0_2, .int .i64 a0_3, .int .i64 a0_4, .int .i64 a0_5, .bool a0_6] 26 (0, 0)) (by (with_reducible repeat (first | refine blk_drewN ?_ _ | refine blk_drew ?_ | refine blk_alloc ?_ _)); exact BK278.out)) : gb279 ≠ gb278)); clear BK278; clear HB; have BK278 := n0_; have HB := n1_; have BK279 := n2_; have GW279 := n3_; have GE279 := n4_; have NB278_279 := n5_; have NB279_278 := n6_; clear n0_ n1_ n2_ n3_ n4_ n5_ n6_; clear hb hbox hg; have hnb32 := NB278_279.out; have hnc32 := NB279_278.out; have hcz33_0 : w31.cell? ⟨gb278, 0, none⟩ = some (.int .i64 a0_0) := (blk_cell BK278.out 0).trans rfl; have hcz33_1 : w31.cell? ⟨gb278, 1, none⟩ = some (.string a0_1) := (blk_cell BK278.out 1).trans rfl; have hcz33_2 : w31.cell? ⟨gb278, 2, none⟩ = some (.int .i64 a0_2) := (blk_cell BK278.out 2).trans rfl; have hcz33_3 : w31.cell? ⟨gb278, 3, none⟩ = some (.int .i64 a0_3) := (blk_cell BK278.out 3).trans rfl; have hcz33_4 : w31.cell? ⟨gb278, 4, none⟩ = some (.int .i64 a0_4) := (blk_cell BK278.out 4).trans rfl; have hcz33_5 : w31.cell? ⟨gb278, 5, none⟩ = some (.int .i64 a0_5) := (blk_cell BK278.out 5).trans rfl; have hcz33_6 : w31.cell? ⟨gb278, 6, none⟩ = some (.bool a0_6) := (blk_cell BK278.out 6).trans rfl; have hfz33_0 := blk_frozen BK278.out 0; have hfz33_1 := blk_frozen BK278.out 1; have hfz33_2 := blk_frozen BK278.out 2; have hfz33_3 := blk_frozen BK278.out 3; have hfz33_4 := blk_frozen BK278.out 4; have hfz33_5 := blk_frozen BK278.out 5; have hfz33_6 := blk_frozen BK278.out 6; have hcz34_0 : w31.cell? ⟨gb279, 0, none⟩ = some (.int .i64 a1_0) := (blk_cell BK279.out 0).trans rfl; have hcz34_1 : w31.cell? ⟨gb279, 1, none⟩ = some (.string a1_1) := (blk_cell BK279.out 1).trans rfl; have hcz34_2 : w31.cell? ⟨gb279, 2, none⟩ = some (.int .i64 a1_2) := (blk_cell BK279.out 2).trans rfl; have hcz34_3 : w31.cell? ⟨gb279, 3, none⟩ = some (.int .i64 a1_3) := (blk_cell BK279.out 3).trans rfl; have hcz34_4 : w31.cell? ⟨gb279, 4, none⟩ = some (.int .i64 a1_4) := (blk_cell BK279.out 4).trans rfl; have hcz34_5 : w31.cell? ⟨gb279, 5, none⟩ = some (.int .i64 a1_5) := (blk_cell BK279.out 5).trans rfl; have hcz34_6 : w31.cell? ⟨gb279, 6, none⟩ = some (.bool a1_6) := (blk_cell BK279.out 6).trans rfl; have hfz34_0 := blk_frozen BK279.out 0; have hfz34_1 := blk_frozen BK279.out 1; have hfz34_2 := blk_frozen BK279.out 2; have hfz34_3 := blk_frozen BK279.out 3; have hfz34_4 := blk_frozen BK279.out 4; have hfz34_5 := blk_frozen BK279.out 5; have hfz34_6 := blk_frozen BK279.out 6))
          go_ret
          exact ⟨by first | rfl | (simp [errW_none, errW_some] <;> rfl) | (simp [*, errW_none, errW_some] <;> rfl), by repeat (first | (with_reducible first | exact HB.out | apply below_alloc | apply pw_below_drewN | apply below_drew1 | refine below_set ?_ GE278.out | refine below_set ?_ GE279.out) | exact HB.out)⟩
      · rw [if_neg c5] at H
        have c5b0 : (a0_1.toList == a1_1.toList) = false := beq_eq_false_iff_ne.mpr c5
        have c5b1 : (a0_1.toList != a1_1.toList) = true := bne_iff_ne.mpr c5
        obtain rfl := Option.some.inj H
        go_enter Tryz.func26, Tryz.ntmps26
        go_wp2_with (first | ((with_reducible refine gate_dst (N := 2) rfl ?_); refine box_event ?hg (N := 2) ?hd (cs := #[.int .i64 a0_0, .string a0_1, .int .i64 a0_2, .int .i64 a0_3, .int .i64 a0_4, .int .i64 a0_5, .bool a0_6]) (t := 26) ?hr ?_; (case hd => rfl); (case hg => rfl); (case hr => first | (go_simp; done) | (go_simp; rfl)); intro gb278 hg w35 hbox hb; have n0_ := Aside0.mk (below_step (by repeat (first | (with_reducible first | exact HB.out | apply below_alloc | apply pw_below_drewN | apply below_drew1) | exact HB.out)) hb); have n1_ := Aside0.mk (hbox); have n2_ := Aside0.mk ((by rw [hg]; exact (below_size (by repeat (first | (with_reducible first | exact HB.out | apply below_alloc | apply pw_below_drewN | apply below_drew1) | exact HB.out))) : w.heap.size ≤ gb278)); have n3_ := Aside0.mk ((by rw [hg]; exact (below_size (by repeat (first | (with_reducible first | exact HB.out | apply below_alloc | apply pw_below_drewN | apply below_drew1) | exact HB.out))) : w.heap.size ≤ gb278)); clear HB; have HB := n0_; have BK278 := n1_; have GW278 := n2_; have GE278 := n3_; clear n0_ n1_ n2_ n3_; clear hb hbox hg) | ((with_reducible refine gate_dst (N := 3) rfl ?_); refine box_event ?hg (N := 3) ?hd (cs := #[.int .i64 a1_0, .string a1_1, .int .i64 a1_2, .int .i64 a1_3, .int .i64 a1_4, .int .i64 a1_5, .bool a1_6]) (t := 26) ?hr ?_; (case hd => rfl); (case hg => rfl); (case hr => first | (go_simp; done) | (go_simp; rfl)); intro gb279 hg w36 hbox hb; have n0_ := Aside0.mk (blk_below (g := gb278) (o := .cells #[.int .i64 a0_0, .string a0_1, .int .i64 a0_2, .int .i64 a0_3, .int .i64 a0_4, .int .i64 a0_5, .bool a0_6] 26 (0, 0)) (by (with_reducible repeat (first | refine blk_drewN ?_ _ | refine blk_drew ?_ | refine blk_alloc ?_ _)); exact BK278.out) hb); have n1_ := Aside0.mk (below_step (by repeat (first | (with_reducible first | exact HB.out | apply below_alloc | apply pw_below_drewN | apply below_drew1 | refine below_set ?_ GE278.out) | exact HB.out)) hb); have n2_ := Aside0.mk (hbox); have n3_ := Aside0.mk ((by rw [hg]; exact (below_size (by repeat (first | (with_reducible first | exact HB.out | apply below_alloc | apply pw_below_drewN | apply below_drew1 | refine below_set ?_ GE278.out) | exact HB.out))) : w.heap.size ≤ gb279)); have n4_ := Aside0.mk ((by rw [hg]; exact (below_size (by repeat (first | (with_reducible first | exact HB.out | apply below_alloc | apply pw_below_drewN | apply below_drew1 | refine below_set ?_ GE278.out) | exact HB.out))) : w.heap.size ≤ gb279)); have n5_ := Aside0.mk ((by rw [hg]; exact Nat.ne_of_lt (blk_lt (g := gb278) (o := .cells #[.int .i64 a0_0, .string a0_1, .int .i64 a0_2, .int .i64 a0_3, .int .i64 a0_4, .int .i64 a0_5, .bool a0_6] 26 (0, 0)) (by (with_reducible repeat (first | refine blk_drewN ?_ _ | refine blk_drew ?_ | refine blk_alloc ?_ _)); exact BK278.out)) : gb278 ≠ gb279)); have n6_ := Aside0.mk ((by rw [hg]; exact Nat.ne_of_gt (blk_lt (g := gb278) (o := .cells #[.int .i64 a0_0, .string a0_1, .int .i64 a0_2, .int .i64 a0_3, .int .i64 a0_4, .int .i64 a0_5, .bool a0_6] 26 (0, 0)) (by (with_reducible repeat (first | refine blk_drewN ?_ _ | refine blk_drew ?_ | refine blk_alloc ?_ _)); exact BK278.out)) : gb279 ≠ gb278)); clear BK278; clear HB; have BK278 := n0_; have HB := n1_; have BK279 := n2_; have GW279 := n3_; have GE279 := n4_; have NB278_279 := n5_; have NB279_278 := n6_; clear n0_ n1_ n2_ n3_ n4_ n5_ n6_; clear hb hbox hg; have hnb37 := NB278_279.out; have hnc37 := NB279_278.out; have hcz38_0 : w36.cell? ⟨gb278, 0, none⟩ = some (.int .i64 a0_0) := (blk_cell BK278.out 0).trans rfl; have hcz38_1 : w36.cell? ⟨gb278, 1, none⟩ = some (.string a0_1) := (blk_cell BK278.out 1).trans rfl; have hcz38_2 : w36.cell? ⟨gb278, 2, none⟩ = some (.int .i64 a0_2) := (blk_cell BK278.out 2).trans rfl; have hcz38_3 : w36.cell? ⟨gb278, 3, none⟩ = some (.int .i64 a0_3) := (blk_cell BK278.out 3).trans rfl; have hcz38_4 : w36.cell? ⟨gb278, 4, none⟩ = some (.int .i64 a0_4) := (blk_cell BK278.out 4).trans rfl; have hcz38_5 : w36.cell? ⟨gb278, 5, none⟩ = some (.int .i64 a0_5) := (blk_cell BK278.out 5).trans rfl; have hcz38_6 : w36.cell? ⟨gb278, 6, none⟩ = some (.bool a0_6) := (blk_cell BK278.out 6).trans rfl; have hfz38_0 := blk_frozen BK278.out 0; have hfz38_1 := blk_frozen BK278.out 1; have hfz38_2 := blk_frozen BK278.out 2; have hfz38_3 := blk_frozen BK278.out 3; have hfz38_4 := blk_frozen BK278.out 4; have hfz38_5 := blk_frozen BK278.out 5; have hfz38_6 := blk_frozen BK278.out 6; have hcz39_0 : w36.cell? ⟨gb279, 0, none⟩ = some (.int .i64 a1_0) := (blk_cell BK279.out 0).trans rfl; have hcz39_1 : w36.cell? ⟨gb279, 1, none⟩ = some (.string a1_1) := (blk_cell BK279.out 1).trans rfl; have hcz39_2 : w36.cell? ⟨gb279, 2, none⟩ = some (.int .i64 a1_2) := (blk_cell BK279.out 2).trans rfl; have hcz39_3 : w36.cell? ⟨gb279, 3, none⟩ = some (.int .i64 a1_3) := (blk_cell BK279.out 3).trans rfl; have hcz39_4 : w36.cell? ⟨gb279, 4, none⟩ = some (.int .i64 a1_4) := (blk_cell BK279.out 4).trans rfl; have hcz39_5 : w36.cell? ⟨gb279, 5, none⟩ = some (.int .i64 a1_5) := (blk_cell BK279.out 5).trans rfl; have hcz39_6 : w36.cell? ⟨gb279, 6, none⟩ = some (.bool a1_6) := (blk_cell BK279.out 6).trans rfl; have hfz39_0 := blk_frozen BK279.out 0; have hfz39_1 := blk_frozen BK279.out 1; have hfz39_2 := blk_frozen BK279.out 2; have hfz39_3 := blk_frozen BK279.out 3; have hfz39_4 := blk_frozen BK279.out 4; have hfz39_5 := blk_frozen BK279.out 5; have hfz39_6 := blk_frozen BK279.out 6))
        go_ret
        exact ⟨by first | rfl | (simp [errW_none, errW_some] <;> rfl) | (simp [*, errW_none, errW_some] <;> rfl), by repeat (first | (with_reducible first | exact HB.out | apply below_alloc | apply pw_below_drewN | apply below_drew1 | refine below_set ?_ GE278.out | refine below_set ?_ GE279.out) | exact HB.out)⟩
    · rw [if_neg c4] at H
      have c4b0 : (a0_0 == a1_0) = false := beq_eq_false_iff_ne.mpr c4
      have c4b1 : (a0_0 != a1_0) = true := bne_iff_ne.mpr c4
      obtain rfl := Option.some.inj H
      go_enter Tryz.func26, Tryz.ntmps26
      go_wp2_with (first | ((with_reducible refine gate_dst (N := 2) rfl ?_); refine box_event ?hg (N := 2) ?hd (cs := #[.int .i64 a0_0, .string a0_1, .int .i64 a0_2, .int .i64 a0_3, .int .i64 a0_4, .int .i64 a0_5, .bool a0_6]) (t := 26) ?hr ?_; (case hd => rfl); (case hg => rfl); (case hr => first | (go_simp; done) | (go_simp; rfl)); intro gb278 hg w40 hbox hb; have n0_ := Aside0.mk (below_step (by repeat (first | (with_reducible first | exact HB.out | apply below_alloc | apply pw_below_drewN | apply below_drew1) | exact HB.out)) hb); have n1_ := Aside0.mk (hbox); have n2_ := Aside0.mk ((by rw [hg]; exact (below_size (by repeat (first | (with_reducible first | exact HB.out | apply below_alloc | apply pw_below_drewN | apply below_drew1) | exact HB.out))) : w.heap.size ≤ gb278)); have n3_ := Aside0.mk ((by rw [hg]; exact (below_size (by repeat (first | (with_reducible first | exact HB.out | apply below_alloc | apply pw_below_drewN | apply below_drew1) | exact HB.out))) : w.heap.size ≤ gb278)); clear HB; have HB := n0_; have BK278 := n1_; have GW278 := n2_; have GE278 := n3_; clear n0_ n1_ n2_ n3_; clear hb hbox hg) | ((with_reducible refine gate_dst (N := 3) rfl ?_); refine box_event ?hg (N := 3) ?hd (cs := #[.int .i64 a1_0, .string a1_1, .int .i64 a1_2, .int .i64 a1_3, .int .i64 a1_4, .int .i64 a1_5, .bool a1_6]) (t := 26) ?hr ?_; (case hd => rfl); (case hg => rfl); (case hr => first | (go_simp; done) | (go_simp; rfl)); intro gb279 hg w41 hbox hb; have n0_ := Aside0.mk (blk_below (g := gb278) (o := .cells #[.int .i64 a0_0, .string a0_1, .int .i64 a0_2, .int .i64 a0_3, .int .i64 a0_4, .int .i64 a0_5, .bool a0_6] 26 (0, 0)) (by (with_reducible repeat (first | refine blk_drewN ?_ _ | refine blk_drew ?_ | refine blk_alloc ?_ _)); exact BK278.out) hb); have n1_ := Aside0.mk (below_step (by repeat (first | (with_reducible first | exact HB.out | apply below_alloc | apply pw_below_drewN | apply below_drew1 | refine below_set ?_ GE278.out) | exact HB.out)) hb); have n2_ := Aside0.mk (hbox); have n3_ := Aside0.mk ((by rw [hg]; exact (below_size (by repeat (first | (with_reducible first | exact HB.out | apply below_alloc | apply pw_below_drewN | apply below_drew1 | refine below_set ?_ GE278.out) | exact HB.out))) : w.heap.size ≤ gb279)); have n4_ := Aside0.mk ((by rw [hg]; exact (below_size (by repeat (first | (with_reducible first | exact HB.out | apply below_alloc | apply pw_below_drewN | apply below_drew1 | refine below_set ?_ GE278.out) | exact HB.out))) : w.heap.size ≤ gb279)); have n5_ := Aside0.mk ((by rw [hg]; exact Nat.ne_of_lt (blk_lt (g := gb278) (o := .cells #[.int .i64 a0_0, .string a0_1, .int .i64 a0_2, .int .i64 a0_3, .int .i64 a0_4, .int .i64 a0_5, .bool a0_6] 26 (0, 0)) (by (with_reducible repeat (first | refine blk_drewN ?_ _ | refine blk_drew ?_ | refine blk_alloc ?_ _)); exact BK278.out)) : gb278 ≠ gb279)); have n6_ := Aside0.mk ((by rw [hg]; exact Nat.ne_of_gt (blk_lt (g := gb278) (o := .cells #[.int .i64 a0_0, .string a0_1, .int .i64 a0_2, .int .i64 a0_3, .int .i64 a0_4, .int .i64 a0_5, .bool a0_6] 26 (0, 0)) (by (with_reducible repeat (first | refine blk_drewN ?_ _ | refine blk_drew ?_ | refine blk_alloc ?_ _)); exact BK278.out)) : gb279 ≠ gb278)); clear BK278; clear HB; have BK278 := n0_; have HB := n1_; have BK279 := n2_; have GW279 := n3_; have GE279 := n4_; have NB278_279 := n5_; have NB279_278 := n6_; clear n0_ n1_ n2_ n3_ n4_ n5_ n6_; clear hb hbox hg; have hnb42 := NB278_279.out; have hnc42 := NB279_278.out; have hcz43_0 : w41.cell? ⟨gb278, 0, none⟩ = some (.int .i64 a0_0) := (blk_cell BK278.out 0).trans rfl; have hcz43_1 : w41.cell? ⟨gb278, 1, none⟩ = some (.string a0_1) := (blk_cell BK278.out 1).trans rfl; have hcz43_2 : w41.cell? ⟨gb278, 2, none⟩ = some (.int .i64 a0_2) := (blk_cell BK278.out 2).trans rfl; have hcz43_3 : w41.cell? ⟨gb278, 3, none⟩ = some (.int .i64 a0_3) := (blk_cell BK278.out 3).trans rfl; have hcz43_4 : w41.cell? ⟨gb278, 4, none⟩ = some (.int .i64 a0_4) := (blk_cell BK278.out 4).trans rfl; have hcz43_5 : w41.cell? ⟨gb278, 5, none⟩ = some (.int .i64 a0_5) := (blk_cell BK278.out 5).trans rfl; have hcz43_6 : w41.cell? ⟨gb278, 6, none⟩ = some (.bool a0_6) := (blk_cell BK278.out 6).trans rfl; have hfz43_0 := blk_frozen BK278.out 0; have hfz43_1 := blk_frozen BK278.out 1; have hfz43_2 := blk_frozen BK278.out 2; have hfz43_3 := blk_frozen BK278.out 3; have hfz43_4 := blk_frozen BK278.out 4; have hfz43_5 := blk_frozen BK278.out 5; have hfz43_6 := blk_frozen BK278.out 6; have hcz44_0 : w41.cell? ⟨gb279, 0, none⟩ = some (.int .i64 a1_0) := (blk_cell BK279.out 0).trans rfl; have hcz44_1 : w41.cell? ⟨gb279, 1, none⟩ = some (.string a1_1) := (blk_cell BK279.out 1).trans rfl; have hcz44_2 : w41.cell? ⟨gb279, 2, none⟩ = some (.int .i64 a1_2) := (blk_cell BK279.out 2).trans rfl; have hcz44_3 : w41.cell? ⟨gb279, 3, none⟩ = some (.int .i64 a1_3) := (blk_cell BK279.out 3).trans rfl; have hcz44_4 : w41.cell? ⟨gb279, 4, none⟩ = some (.int .i64 a1_4) := (blk_cell BK279.out 4).trans rfl; have hcz44_5 : w41.cell? ⟨gb279, 5, none⟩ = some (.int .i64 a1_5) := (blk_cell BK279.out 5).trans rfl; have hcz44_6 : w41.cell? ⟨gb279, 6, none⟩ = some (.bool a1_6) := (blk_cell BK279.out 6).trans rfl; have hfz44_0 := blk_frozen BK279.out 0; have hfz44_1 := blk_frozen BK279.out 1; have hfz44_2 := blk_frozen BK279.out 2; have hfz44_3 := blk_frozen BK279.out 3; have hfz44_4 := blk_frozen BK279.out 4; have hfz44_5 := blk_frozen BK279.out 5; have hfz44_6 := blk_frozen BK279.out 6))
      go_ret
      exact ⟨by first | rfl | (simp [errW_none, errW_some] <;> rfl) | (simp [*, errW_none, errW_some] <;> rfl), by repeat (first | (with_reducible first | exact HB.out | apply below_alloc | apply pw_below_drewN | apply below_drew1 | refine below_set ?_ GE278.out | refine below_set ?_ GE279.out) | exact HB.out)⟩
  · rw [if_neg c3] at H
    have c3b0 : (a0_5 == a1_5) = false := beq_eq_false_iff_ne.mpr c3
    have c3b1 : (a0_5 != a1_5) = true := bne_iff_ne.mpr c3
    obtain rfl := Option.some.inj H
    go_enter Tryz.func26, Tryz.ntmps26
    go_wp2_with (first | ((with_reducible refine gate_dst (N := 2) rfl ?_); refine box_event ?hg (N := 2) ?hd (cs := #[.int .i64 a0_0, .string a0_1, .int .i64 a0_2, .int .i64 a0_3, .int .i64 a0_4, .int .i64 a0_5, .bool a0_6]) (t := 26) ?hr ?_; (case hd => rfl); (case hg => rfl); (case hr => first | (go_simp; done) | (go_simp; rfl)); intro gb278 hg w45 hbox hb; have n0_ := Aside0.mk (below_step (by repeat (first | (with_reducible first | exact HB.out | apply below_alloc | apply pw_below_drewN | apply below_drew1) | exact HB.out)) hb); have n1_ := Aside0.mk (hbox); have n2_ := Aside0.mk ((by rw [hg]; exact (below_size (by repeat (first | (with_reducible first | exact HB.out | apply below_alloc | apply pw_below_drewN | apply below_drew1) | exact HB.out))) : w.heap.size ≤ gb278)); have n3_ := Aside0.mk ((by rw [hg]; exact (below_size (by repeat (first | (with_reducible first | exact HB.out | apply below_alloc | apply pw_below_drewN | apply below_drew1) | exact HB.out))) : w.heap.size ≤ gb278)); clear HB; have HB := n0_; have BK278 := n1_; have GW278 := n2_; have GE278 := n3_; clear n0_ n1_ n2_ n3_; clear hb hbox hg) | ((with_reducible refine gate_dst (N := 3) rfl ?_); refine box_event ?hg (N := 3) ?hd (cs := #[.int .i64 a1_0, .string a1_1, .int .i64 a1_2, .int .i64 a1_3, .int .i64 a1_4, .int .i64 a1_5, .bool a1_6]) (t := 26) ?hr ?_; (case hd => rfl); (case hg => rfl); (case hr => first | (go_simp; done) | (go_simp; rfl)); intro gb279 hg w46 hbox hb; have n0_ := Aside0.mk (blk_below (g := gb278) (o := .cells #[.int .i64 a0_0, .string a0_1, .int .i64 a0_2, .int .i64 a0_3, .int .i64 a0_4, .int .i64 a0_5, .bool a0_6] 26 (0, 0)) (by (with_reducible repeat (first | refine blk_drewN ?_ _ | refine blk_drew ?_ | refine blk_alloc ?_ _)); exact BK278.out) hb); have n1_ := Aside0.mk (below_step (by repeat (first | (with_reducible first | exact HB.out | apply below_alloc | apply pw_below_drewN | apply below_drew1 | refine below_set ?_ GE278.out) | exact HB.out)) hb); have n2_ := Aside0.mk (hbox); have n3_ := Aside0.mk ((by rw [hg]; exact (below_size (by repeat (first | (with_reducible first | exact HB.out | apply below_alloc | apply pw_below_drewN | apply below_drew1 | refine below_set ?_ GE278.out) | exact HB.out))) : w.heap.size ≤ gb279)); have n4_ := Aside0.mk ((by rw [hg]; exact (below_size (by repeat (first | (with_reducible first | exact HB.out | apply below_alloc | apply pw_below_drewN | apply below_drew1 | refine below_set ?_ GE278.out) | exact HB.out))) : w.heap.size ≤ gb279)); have n5_ := Aside0.mk ((by rw [hg]; exact Nat.ne_of_lt (blk_lt (g := gb278) (o := .cells #[.int .i64 a0_0, .string a0_1, .int .i64 a0_2, .int .i64 a0_3, .int .i64 a0_4, .int .i64 a0_5, .bool a0_6] 26 (0, 0)) (by (with_reducible repeat (first | refine blk_drewN ?_ _ | refine blk_drew ?_ | refine blk_alloc ?_ _)); exact BK278.out)) : gb278 ≠ gb279)); have n6_ := Aside0.mk ((by rw [hg]; exact Nat.ne_of_gt (blk_lt (g := gb278) (o := .cells #[.int .i64 a0_0, .string a0_1, .int .i64 a0_2, .int .i64 a0_3, .int .i64 a0_4, .int .i64 a0_5, .bool a0_6] 26 (0, 0)) (by (with_reducible repeat (first | refine blk_drewN ?_ _ | refine blk_drew ?_ | refine blk_alloc ?_ _)); exact BK278.out)) : gb279 ≠ gb278)); clear BK278; clear HB; have BK278 := n0_; have HB := n1_; have BK279 := n2_; have GW279 := n3_; have GE279 := n4_; have NB278_279 := n5_; have NB279_278 := n6_; clear n0_ n1_ n2_ n3_ n4_ n5_ n6_; clear hb hbox hg; have hnb47 := NB278_279.out; have hnc47 := NB279_278.out; have hcz48_0 : w46.cell? ⟨gb278, 0, none⟩ = some (.int .i64 a0_0) := (blk_cell BK278.out 0).trans rfl; have hcz48_1 : w46.cell? ⟨gb278, 1, none⟩ = some (.string a0_1) := (blk_cell BK278.out 1).trans rfl; have hcz48_2 : w46.cell? ⟨gb278, 2, none⟩ = some (.int .i64 a0_2) := (blk_cell BK278.out 2).trans rfl; have hcz48_3 : w46.cell? ⟨gb278, 3, none⟩ = some (.int .i64 a0_3) := (blk_cell BK278.out 3).trans rfl; have hcz48_4 : w46.cell? ⟨gb278, 4, none⟩ = some (.int .i64 a0_4) := (blk_cell BK278.out 4).trans rfl; have hcz48_5 : w46.cell? ⟨gb278, 5, none⟩ = some (.int .i64 a0_5) := (blk_cell BK278.out 5).trans rfl; have hcz48_6 : w46.cell? ⟨gb278, 6, none⟩ = some (.bool a0_6) := (blk_cell BK278.out 6).trans rfl; have hfz48_0 := blk_frozen BK278.out 0; have hfz48_1 := blk_frozen BK278.out 1; have hfz48_2 := blk_frozen BK278.out 2; have hfz48_3 := blk_frozen BK278.out 3; have hfz48_4 := blk_frozen BK278.out 4; have hfz48_5 := blk_frozen BK278.out 5; have hfz48_6 := blk_frozen BK278.out 6; have hcz49_0 : w46.cell? ⟨gb279, 0, none⟩ = some (.int .i64 a1_0) := (blk_cell BK279.out 0).trans rfl; have hcz49_1 : w46.cell? ⟨gb279, 1, none⟩ = some (.string a1_1) := (blk_cell BK279.out 1).trans rfl; have hcz49_2 : w46.cell? ⟨gb279, 2, none⟩ = some (.int .i64 a1_2) := (blk_cell BK279.out 2).trans rfl; have hcz49_3 : w46.cell? ⟨gb279, 3, none⟩ = some (.int .i64 a1_3) := (blk_cell BK279.out 3).trans rfl; have hcz49_4 : w46.cell? ⟨gb279, 4, none⟩ = some (.int .i64 a1_4) := (blk_cell BK279.out 4).trans rfl; have hcz49_5 : w46.cell? ⟨gb279, 5, none⟩ = some (.int .i64 a1_5) := (blk_cell BK279.out 5).trans rfl; have hcz49_6 : w46.cell? ⟨gb279, 6, none⟩ = some (.bool a1_6) := (blk_cell BK279.out 6).trans rfl; have hfz49_0 := blk_frozen BK279.out 0; have hfz49_1 := blk_frozen BK279.out 1; have hfz49_2 := blk_frozen BK279.out 2; have hfz49_3 := blk_frozen BK279.out 3; have hfz49_4 := blk_frozen BK279.out 4; have hfz49_5 := blk_frozen BK279.out 5; have hfz49_6 := blk_frozen BK279.out 6))
    go_ret
    exact ⟨by first | rfl | (simp [errW_none, errW_some] <;> rfl) | (simp [*, errW_none, errW_some] <;> rfl), by repeat (first | (with_reducible first | exact HB.out | apply below_alloc | apply pw_below_drewN | apply below_drew1 | refine below_set ?_ GE278.out | refine below_set ?_ GE279.out) | exact HB.out)⟩

end Go.Proofs.YthcjocojngochaaGreatDoor.X
