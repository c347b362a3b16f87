-- Written by a program of mine (wip/tools/xprint.py) over the kit's print.py: printed functions and hand-proved ones side by side.
import Derived.Test.YthcjocojngochaaGreatDoorXx0
import Derived.Test.YthcjocojngochaaGreatDoorXx3
import Derived.Test.YthcjocojngochaaGreatDoorXx9
import Derived.Test.YthcjocojngochaaGreatDoorXx10
namespace Go.Proofs.YthcjocojngochaaGreatDoor.X
open Go.RowKit Go.Proofs.YthcjocojngochaaGreatDoorW.PrintWords Go.Proofs.YthcjocojngochaaGreatDoorW.PrintLast Go.Proofs.YthcjocojngochaaGreatDoorW.PrintMore
attribute [local go_sem] max2_int min2_int max_two min_two max_three min_three max_four min_four   -- for this text's walks alone
set_option linter.unusedVariables false
set_option linter.unusedSimpArgs false

/-! ### span_sweep: function 59 -/
-- by hand: cohousing/span.sweep
section
open Go.Sort (grow alloc_eq_grow grow_grow)
section
variable {P : Program} {ops : Array Oper} {rest : List Oper} {o : Oper} {a : Act} {Q : Exit → Act → World → Prop}
theorem print_append2 {w0 W : World} (base : Nat) (hgd : o.guard = none) (s x : Operand) (t e : TypeId) (z : Value) (bytes : Nat)
    (ho : o.op = .call { callee := .builtin .append, args := #[s, x], argTypes := #[t, t] })
    (ht : P.underlying t = some (.slice e)) (hinfo : (P.info? e).map (fun i => (i.zero, i.size, i.bytes)) = some (some z, 1, bytes)) (hz : z.cells.size = 1) (hb0 : 0 < bytes)
    (v : Value) (n : Nat) (xs : List Value) (hn : xs.length = n) (y y2 : Value) (hs : a.eval s = v) (hx : a.eval x = .slice (some ⟨W.heap.size, 0, none⟩) 2 2) (h1 : y.oneCell' = true) (h2 : y2.oneCell' = true)
    (HO : W.ownsRow base e 1 v n xs) (HB : Below base w0 W) (hbase : base ≤ W.heap.size) (hl : (n + 2) * bytes ≤ 140737488355328)
    (h : ∀ v1 w1, w1.ownsRow base e 1 v1 (n + 2) (xs ++ [y, y2]) → Below base w0 w1 → wpList P ops Q rest (a.put o.dst v1) w1) :
    wpList P ops Q (o :: rest) a (W.alloc (.cells #[y, y2] e)) := by
  obtain ⟨i0, hi, hzz⟩ := Option.map_eq_some_iff.1 hinfo
  simp only [Prod.mk.injEq] at hzz
  obtain ⟨hz0, hz1, hz2⟩ := hzz
  have hlen : n + 2 ≤ 140737488355328 := Nat.le_trans (Nat.le_mul_of_pos_right _ hb0) hl
  refine wpList_append_own (w := W.alloc (.cells #[y, y2] e)) hgd s x t ho base e i0 z 1 bytes ht hi hz0 hz1 hz2 hz (by omega) v n xs hs (HO.alloc _) ⟨W.heap.size, 0, none⟩ 2 2 [y, y2] hx rfl
    (World.news_of_block (cs := #[y, y2]) (t := e) (fr := (0, 0)) (heap_alloc_new W _)) (by simp [h1, h2]) (by simp only [maxLen]; omega) hl (by simp; omega) ?_
  intro v1 w1 hown hg _
  exact h v1 w1 hown ((HB.alloc hbase _).grown hg (by simp; omega) (own_base HO))
end
def fl (l : List S24) : List Value := l.flatMap (fun s => [.int .i64 s.f0, .int .i64 s.f1])
theorem fl_len (l : List S24) : (fl l).length = 2 * l.length := by
  induction l with
  | nil => rfl
  | cons s r ih =>
    unfold fl at ih ⊢
    rw [List.flatMap_cons, List.length_append, ih, List.length_cons]
    simp
    omega
theorem fl_take (l : List S24) (j : Nat) (h : j < l.length) : fl (l.take (j + 1)) = fl (l.take j) ++ [.int .i64 (rd_T24 l j).f0, .int .i64 (rd_T24 l j).f1] := by
  have er : rd_T24 l (j : Int) = l[j] := by
    unfold rd_T24
    rw [Int.toNat_natCast, List.getD_eq_getElem?_getD, List.getElem?_eq_getElem h]
    rfl
  rw [er, List.take_add_one, List.getElem?_eq_getElem h]
  unfold fl
  rw [List.flatMap_append]
  rfl
/-- The ends of the first i of two lists. -/
def flI (l0 l1 : List S24) (i : Nat) : List Value := if i = 0 then [] else if i = 1 then fl l0 else fl l0 ++ fl l1
set_option maxHeartbeats 8000000 in
set_option maxRecDepth 100000 in
theorem ends_loop (w0 W : World) (g : Nat) (A0 A1 : Option Addr) (c0 c1 : Nat) (l0 l1 : List S24) (hB : Below w0.heap.size w0 W) (hblk : W.heap[g]? = some (.cells #[.slice A0 l0.length c0, .slice A1 l1.length c1] 33 (0, 0)))
    (h0 : Kd.C k24 w0 A0 l0.length l0) (h1 : Kd.C k24 w0 A1 l1.length l1) (n0 : l0.length ≤ 1000) (n1 : l1.length ≤ 1000) (xs : List Int) (R : World → Prop)
    (hsort : ∀ (v : Value) (w' : World), w'.ownsRow W.heap.size 3 1 v (flI l0 l1 2).length (flI l0 l1 2) → Below W.heap.size W w' → Calls Tryz.prog 72 #[v] w' fun e w2 => e = .returned (.tuple #[]) ∧ Below W.heap.size W w2 ∧ Calls Tryz.prog 73 #[v] w2 fun e w3 => ∃ A c, e = .returned (.slice A xs.length c) ∧ xs.length ≤ c ∧ Kd.C (Kd.int .i64) w3 A xs.length xs ∧ Below W.heap.size W w3) :
    Calls Tryz.prog 92 #[.slice (some ⟨g, 0, none⟩) 2 2] W fun e w' => ∃ A c, e = .returned (.slice A xs.length c) ∧ xs.length ≤ c ∧ Kd.C (Kd.int .i64) w' A xs.length xs ∧ Below W.heap.size W w' := by
  have hu30 := Tryz.underlying24
  have HBK := Lib.hid hblk
  have HB0 := Lib.hid hB
  have HC0 := Lib.hid h0
  have HC1 := Lib.hid h1
  have HS := Lib.hid hsort
  have HN := Lib.hid (And.intro n0 n1)
  clear hblk hB h0 h1 hsort n0 n1
  go_enter Tryz.func92, Tryz.ntmps92
  go_wp2
  go_loopg [3, 10] 2 (fun kq v3 v10 w' => ∃ i : Nat, v10 = .int .i64 i ∧ Aside0 (i + kq = 2 ∧ w'.ownsRow W.heap.size 3 1 v3 (flI l0 l1 i).length (flI l0 l1 i) ∧ Below W.heap.size W w'))
  case atStart => exact ⟨0, rfl, ⟨rfl, World.ownsRow_nil .., Below.refl _ _⟩⟩
  case round =>
    obtain ⟨i, rfl, hi⟩ := hrel
    obtain ⟨hk, hO, hBW⟩ := hi.out
    clear hi
    have HO := Lib.hid hO
    have HBW := Lib.hid hBW
    clear hO hBW
    have hi2 : i = 0 ∨ i = 1 ∨ i = 2 := by omega
    by_cases h2 : i = 2
    · subst h2
      have HS2 := Lib.hid (HS.out u3 wr HO.out HBW.out)
      go_wp2_with (first
        | (go_at_call 72; refine HS2.out.mono ?_; rintro e w2 ⟨rfl, hb2, hc⟩; have HC3 := Lib.hid hc; clear hc hb2)
        | (go_at_call 73; refine HC3.out.mono ?_; rintro e w3 ⟨A, c, rfl, h⟩; have HE := Lib.hid h; clear h))
      go_ret
      exact ⟨A, c, rfl, HE.out⟩
    · obtain ⟨A, c, l, hcell, hC, hn, hfl⟩ : ∃ A c, ∃ l : List S24, wr.cell? ⟨g, i, none⟩ = some (.slice A l.length c) ∧ Kd.C k24 w0 A l.length l ∧ l.length ≤ 1000 ∧ flI l0 l1 (i + 1) = flI l0 l1 i ++ fl l := by
        have hb := (HBW.out.block g (blk_lt HBK.out)).trans HBK.out
        rcases hi2 with rfl | rfl | rfl
        · exact ⟨A0, c0, l0, (blk_cell hb 0).trans rfl, HC0.out, HN.out.1, rfl⟩
        · exact ⟨A1, c1, l1, (blk_cell hb 1).trans rfl, HC1.out, HN.out.2, rfl⟩
        · exact absurd rfl h2
      have hfn : (flI l0 l1 i).length ≤ 2000 := by
        have := HN.out
        rcases hi2 with rfl | rfl | rfl
        · simp [flI]
        · simp [flI, fl_len]; omega
        · exact absurd rfl h2
      have HF := Lib.hid hfl
      have HCl := Lib.hid hC
      clear hfl hC
      have q1 : decide ((i : Int) < 2) = true := decide_eq_true (by omega)
      have q0 : decide ((0 : Int) ≤ (i : Int)) = true := decide_eq_true (by omega)
      have q2 : ((i : Int) < 2) = True := eq_true (by omega)
      have q3 : ((0 : Int) ≤ (i : Int)) = True := eq_true (by omega)
      go_wp2
      clear q0 q1 q2 q3 hcell
      go_loopg [3, 16] (l.length) (fun kq v3 v16 w' => ∃ j : Nat, v16 = .int .i64 j ∧ Aside0 (j + kq = l.length ∧ w'.ownsRow W.heap.size 3 1 v3 ((flI l0 l1 i).length + 2 * j) (flI l0 l1 i ++ fl (l.take j)) ∧ Below W.heap.size W w'))
      case atStart => exact ⟨0, rfl, ⟨by omega, by have := HO.out; simpa [fl] using this, HBW.out⟩⟩
      case round =>
        obtain ⟨j, rfl, hj⟩ := hrel
        obtain ⟨hk2, hO2, hB2⟩ := hj.out
        clear hj HO HBW
        have HO2 := Lib.hid hO2
        have HB2 := Lib.hid hB2
        clear hO2 hB2
        by_cases hlt : j < l.length
        · obtain ⟨ad, e, x0, x1⟩ := at_T24 HCl.out (j : Int) (by omega) (by omega)
          subst e
          have hBw : Below w0.heap.size w0 wr := HB0.out.trans (HB2.out.mono HB0.out.size)
          have y0 := (hBw.cell (World.block_lt_of_cell? w0 _ x0)).trans x0
          have y1 := (hBw.cell (World.block_lt_of_cell? w0 _ x1)).trans x1
          clear x0 x1 hBw
          rw [Int.toNat_natCast] at y0 y1
          have hfl2 := Lib.hid (fl_take l j hlt)
          have q1 : decide ((j : Int) < (l.length : Int)) = true := decide_eq_true (by omega)
          have q0 : decide ((0 : Int) ≤ (j : Int)) = true := decide_eq_true (by omega)
          have q2 : ((j : Int) < (l.length : Int)) = True := eq_true (by omega)
          have q3 : ((0 : Int) ≤ (j : Int)) = True := eq_true (by omega)
          have hle : ((flI l0 l1 i).length + 2 * j + 2) * 8 ≤ 140737488355328 := by omega
          have hlen : (flI l0 l1 i ++ fl (l.take j)).length = (flI l0 l1 i).length + 2 * j := by rw [List.length_append, fl_len, List.length_take]; omega
          have HL := Lib.hid hle
          have HLn := Lib.hid hlen
          have hsz := HB2.out.size
          clear hle hlen
          generalize hr0 : (rd_T24 l (j : Int)).f0 = r0 at y0 hfl2
          generalize hr1 : (rd_T24 l (j : Int)).f1 = r1 at y1 hfl2
          clear hr0 hr1
          go_wp2_with (first
            | ((with_reducible refine gate_builtin (b := .append) (xs := #[.tmp 20, .tmp 25]) rfl ?_); at_builtin; refine print_append2 (w0 := W) (W := wr.alloc (.cells #[.int .i64 r0, .int .i64 r1] 24)) W.heap.size rfl (.tmp 20) (.tmp 25) 44 3 (.int .i64 0) 8 rfl Tryz.underlying44 (by kernel_rfl) rfl (by decide) u3 _ _ HLn.out _ _ rfl (by first | (go_simp; done) | (go_simp; rfl)) rfl rfl (HO2.out.alloc _) (below_alloc HB2.out _) (by simp; omega) HL.out ?_; intro v1 w1 ho hb; have HO3 := Lib.hid ho; have HB3 := Lib.hid hb; clear ho hb))
          go_roundg (gk - 1)
          case measure => omega
          case rel => exact ⟨j + 1, by simp, ⟨by omega, by rw [hfl2.out, ← List.append_assoc]; exact HO3.out, HB3.out⟩⟩
        · have hj : j = l.length := by omega
          have q1 : decide ((j : Int) < (l.length : Int)) = false := decide_eq_false (by omega)
          have q2 : ((j : Int) < (l.length : Int)) = False := eq_false (by omega)
          have q3 : ¬ j < l.length := hlt
          go_wp2
          go_roundg (1 - i)
          case measure => omega
          case rel =>
            refine ⟨i + 1, by simp, ⟨by omega, ?_, HB2.out⟩⟩
            have := HO2.out
            rw [hj, List.take_length] at this
            rw [HF.out, List.length_append, fl_len]
            exact this
open Go.Sort (Holds putRow)
theorem below_putRow {w0 w : World} {B : Nat} (h : Below B w0 w) (blk off : Nat) (d : Array Int) (hb : B ≤ blk) (m : Nat) : Below B w0 (putRow (Value.int .i64) (Go.Sort.ahead w m) blk off d) := by
  refine ⟨h.os, h.tape, h.output, by simp [Go.Sort.ahead, h.size], fun k hk => ?_⟩
  rw [← h.block k hk]
  simp only [putRow, Go.Sort.mapBlock, Array.getElem?_modify]
  rw [if_neg (by omega)]
  rfl
theorem below_grow' {w0 w : World} {B : Nat} (h : Below B w0 w) (hB : B ≤ w.heap.size) (os : Array Obj) : Below B w0 (grow w os) := by
  refine h.trans ⟨rfl, rfl, rfl, by simp [grow], fun k hk => Go.Sort.heap_grow_old w os (by omega)⟩
/-- The ends, sorted, each one once. -/
def sorted (zs : List Int) : List Int := zs.mergeSort fun x y => decide (x ≤ y)
theorem sorted_len (zs : List Int) : (sorted zs).length = zs.length := List.length_mergeSort zs
theorem sort_compact (W w' : World) (v : Value) (zs : List Int) (hO : w'.ownsRow W.heap.size 3 1 v zs.length (zs.map (Value.int .i64))) (hB : Below W.heap.size W w') (hsz : zs.length ≤ 1000000) :
    Calls Tryz.prog 72 #[v] w' fun e w2 => e = .returned (.tuple #[]) ∧ Below W.heap.size W w2 ∧ Calls Tryz.prog 73 #[v] w2 fun e w3 => ∃ A c, e = .returned (.slice A (Lib.compact (sorted zs)).length c) ∧ (Lib.compact (sorted zs)).length ≤ c ∧ Kd.C (Kd.int .i64) w3 A (Lib.compact (sorted zs)).length (Lib.compact (sorted zs)) ∧ Below W.heap.size W w3 := by
  have hzero : ∀ (p : Option Addr) (cap : Nat), zs = [] → v = .slice p 0 cap → Calls Tryz.prog 72 #[v] w' fun e w2 => e = .returned (.tuple #[]) ∧ Below W.heap.size W w2 ∧ Calls Tryz.prog 73 #[v] w2 fun e w3 => ∃ A c, e = .returned (.slice A (Lib.compact (sorted zs)).length c) ∧ (Lib.compact (sorted zs)).length ≤ c ∧ Kd.C (Kd.int .i64) w3 A (Lib.compact (sorted zs)).length (Lib.compact (sorted zs)) ∧ Below W.heap.size W w3 := by
    intro p cap hz hv
    subst hz hv
    refine (Tryz.slices_Sort_int_none p cap w').mono ?_
    rintro e w2 ⟨rfl, rfl⟩
    refine ⟨rfl, hB, (Tryz.slices_Compact_int_empty p cap _).mono ?_⟩
    rintro e w3 ⟨rfl, rfl⟩
    have hs : Lib.compact (sorted []) = [] := by decide +kernel
    rw [hs]
    exact ⟨p, cap, rfl, Nat.zero_le _, ⟨rfl, by simp, fun h => absurd h (Nat.lt_irrefl 0)⟩, hB⟩
  rcases hO.2 with ⟨hv, h0⟩ | ⟨b, cap, cur, hv, hb, hh, hcap, hmax, hcs, htake⟩
  · exact hzero none 0 (List.length_eq_zero_iff.mp h0) hv
  · by_cases h0 : zs = []
    · subst h0
      exact hzero _ _ rfl hv
    · have hcell : ∀ j, j < zs.length → w'.cell? ⟨b, 0 + j, none⟩ = some (.int .i64 zs[j]!) ∧ w'.frozen? ⟨b, 0 + j, none⟩ = false := by
        intro j hj
        rw [Nat.zero_add]
        constructor
        · have := hO.cells (g := b) (by rw [hv]; rfl) j (.int .i64 zs[j]!) (by rw [List.getElem?_map, List.getElem?_eq_getElem hj, getElem!_pos zs j hj]; rfl)
          rwa [add_plain] at this
        · simp [World.frozen?, hh]
      have hH : Holds (Value.int .i64) w' b 0 zs.toArray := by
        intro j hj
        have h := hcell j (by simpa using hj)
        rw [getElem!_pos zs j (by simpa using hj)] at h
        rw [getElem!_pos zs.toArray j hj]
        exact h
      have hbl : b < w'.heap.size := (Array.getElem?_eq_some_iff.mp hh).1
      subst hv
      refine (Tryz.slices_Sort_int b 0 cap zs w' hH hbl (by omega)).mono ?_
      rintro e w2 ⟨rfl, n, os, hw2⟩
      have hbw : W.heap.size ≤ w'.heap.size := hB.size
      have hB2 : Below W.heap.size W w2 := by
        rw [hw2]
        exact below_grow' (below_putRow hB b 0 _ hb n) (by simp [Go.Sort.ahead]; omega) os
      have hs2 : (zs.mergeSort fun x y => decide (x ≤ y)).toArray.size = zs.toArray.size := by simp
      have hH2 : Holds (Value.int .i64) w2 b 0 (sorted zs).toArray := by
        rw [hw2]
        refine Go.Sort.holds_grow _ _ os b 0 _ (by simp [Go.Sort.ahead]; exact hbl) ?_
        exact Go.Sort.holds_putRow _ _ b 0 zs.toArray _ (Go.Sort.holds_ahead _ _ _ _ _ _ hH) hs2
      refine ⟨rfl, hB2, ?_⟩
      have hcon := Tryz.slices_Compact_int b 0 cap (sorted zs) w2 hH2 (by rw [sorted_len]; omega) (by rw [sorted_len]; exact hcap)
      rw [sorted_len] at hcon
      refine hcon.mono ?_
      rintro e w3 ⟨rfl, q, hw3⟩
      have hle : (Lib.compact (sorted zs)).length ≤ zs.length := by
        have := Lib.compact_length_le (sorted zs)
        rw [sorted_len] at this
        exact this
      refine ⟨_, cap, rfl, by omega, ?_, by rw [hw3]; exact below_putRow hB2 b 0 _ hb q⟩
      have hsz3 : (Lib.compact (sorted zs) ++ List.replicate (zs.length - (Lib.compact (sorted zs)).length) 0).toArray.size = (sorted zs).toArray.size := by
        simp [sorted_len]
        omega
      have hH3 := Go.Sort.holds_putRow (Value.int .i64) (Go.Sort.ahead w2 q) b 0 (sorted zs).toArray _ (Go.Sort.holds_ahead _ _ _ _ _ _ hH2) hsz3
      rw [← hw3] at hH3
      refine Kd.C_of_reads (d := 0) ⟨rfl, by omega, fun _ => ⟨_, rfl, fun j hj => ?_⟩⟩
      have h := (hH3 j (by simp; omega)).1
      rw [Nat.zero_add] at h
      rw [add_plain, h, getElem!_pos _ j (by simp; omega)]
      simp [List.getD_eq_getElem?_getD, List.getElem?_eq_getElem hj, List.getElem_append_left hj]
/-- A stretch put to a list: joined to the last one, or behind it. -/
def addF (l : List S24) (s : S24) : List S24 :=
  if 0 < l.length ∧ (rd_T24 l ((l.length : Int) - 1)).f1 ≥ s.f0 then l.set (l.length - 1) ⟨(rd_T24 l ((l.length : Int) - 1)).f0, mx ((rd_T24 l ((l.length : Int) - 1)).f1) s.f1⟩ else l ++ [s]
theorem addF_len (l : List S24) (s : S24) : (addF l s).length ≤ l.length + 1 := by
  unfold addF
  split
  · simp
  · simp
theorem add_f (l : List S24) (x y : Int) (h : l.length < 8796093022208) : span_add.f l x y = some (addF l ⟨x, y⟩) := by
  unfold span_add.f addF
  by_cases h0 : 0 < l.length
  · have hw : wrap64 ((l.length : Int) - 1) = (l.length : Int) - 1 := by unfold wrap64; omega
    rw [if_pos (by omega), hw, if_pos (by clear hw; omega), if_pos (by clear hw; omega)]
    have ht : ((l.length : Int) - 1).toNat = l.length - 1 := by clear hw; omega
    rw [ht]
    by_cases h1 : (rd_T24 l ((l.length : Int) - 1)).f1 ≥ x
    · rw [if_pos h1, if_pos ⟨h0, h1⟩]
    · rw [if_neg h1, if_pos h, if_neg (fun e => h1 e.2)]
  · rw [if_neg (by omega), if_pos h, if_neg (fun e => h0 e.1)]
/-- The days that are kept, from the ends of stretches. -/
def sweepL (kf : Bool → Bool → Bool) : List Int → List S24 → List S24 → List S24 → List S24
  | d :: e :: r, ra, rb, out => sweepL kf (e :: r) (pastD ra d) (pastD rb d) (if kf (inD ra d) (inD rb d) then addF out ⟨d, e⟩ else out)
  | _, _, _, out => out
def flZ (l : List S24) : List Int := l.flatMap (fun s => [s.f0, s.f1])
def endsF (a b : List S24) : List Int := Lib.compact (sorted (flZ a ++ flZ b))
def limF (l : List S24) : List S24 × Int := if l.length > 1000 then ([], 2) else (l, 0)
theorem fl_map (l : List S24) : fl l = (flZ l).map (Value.int .i64) := by
  unfold fl flZ
  rw [List.map_flatMap]
  rfl
theorem flZ_len (l : List S24) : (flZ l).length = 2 * l.length := by
  have := congrArg List.length (fl_map l)
  rw [fl_len, List.length_map] at this
  exact this.symm
theorem endsF_len (a b : List S24) : (endsF a b).length ≤ 2 * a.length + 2 * b.length := by
  unfold endsF
  have := Lib.compact_length_le (sorted (flZ a ++ flZ b))
  rw [sorted_len, List.length_append, flZ_len, flZ_len] at this
  exact this
theorem ends_ok (w0 W : World) (g : Nat) (A0 A1 : Option Addr) (c0 c1 : Nat) (l0 l1 : List S24) (hB : Below w0.heap.size w0 W) (hblk : W.heap[g]? = some (.cells #[.slice A0 l0.length c0, .slice A1 l1.length c1] 33 (0, 0)))
    (h0 : Kd.C k24 w0 A0 l0.length l0) (h1 : Kd.C k24 w0 A1 l1.length l1) (n0 : l0.length ≤ 1000) (n1 : l1.length ≤ 1000) :
    Calls Tryz.prog 92 #[.slice (some ⟨g, 0, none⟩) 2 2] W fun e w' => ∃ A c, e = .returned (.slice A (endsF l0 l1).length c) ∧ (endsF l0 l1).length ≤ c ∧ Kd.C (Kd.int .i64) w' A (endsF l0 l1).length (endsF l0 l1) ∧ Below W.heap.size W w' := by
  refine ends_loop w0 W g A0 A1 c0 c1 l0 l1 hB hblk h0 h1 n0 n1 _ (fun _ => True) ?_
  intro v w' hO hb
  have e : flI l0 l1 2 = (flZ l0 ++ flZ l1).map (Value.int .i64) := by rw [List.map_append, ← fl_map, ← fl_map]; rfl
  have el : (flI l0 l1 2).length = (flZ l0 ++ flZ l1).length := by rw [e, List.length_map]
  rw [el, e] at hO
  exact sort_compact W w' v _ hO hb (by rw [List.length_append, flZ_len, flZ_len]; omega)
/-- What a sweep returns. -/
def sweepF (kf : Bool → Bool → Bool) (va vb : Bool) (a b : List S24) : List S24 × Int := if va && vb then limF (sweepL kf (endsF a b) a b []) else ([], 1)
theorem limited_f (l : List S24) : span_limited.f l = some (limF l) := by
  unfold span_limited.f limF
  by_cases h : l.length > 1000
  · rw [if_pos h, if_pos (by omega)]
  · rw [if_neg h, if_neg (by omega)]
theorem sweepL_end (kf : Bool → Bool → Bool) (zs : List Int) (ra rb out : List S24) (h : zs.length ≤ 1) : sweepL kf zs ra rb out = out := by
  match zs, h with
  | [], _ => rfl
  | [_], _ => rfl
  | _ :: _ :: _, h => simp at h
theorem drop_two (zs : List Int) (i : Nat) (h : i + 1 < zs.length) : zs.drop i = rd zs (i : Int) :: rd zs ((i + 1 : Nat) : Int) :: zs.drop (i + 2) ∧ zs.drop (i + 1) = rd zs ((i + 1 : Nat) : Int) :: zs.drop (i + 2) := by
  have e : ∀ j, (hj : j < zs.length) → rd zs (j : Int) = zs[j] := by
    intro j hj
    simp [rd, hj]
  rw [e i (by omega), e (i + 1) h, List.drop_eq_getElem_cons (by omega : i < zs.length), List.drop_eq_getElem_cons h]
  exact ⟨rfl, rfl⟩
theorem box_other {w W W' : World} {B B' : Nat} {l : List S24} (h : Box w W B l) (hg : W.grownBy W' (some B')) (hne : B ≠ B') : Box w W' B l := by
  have h' := h
  obtain ⟨_, A, c, hb, _⟩ := h'
  exact h.keep (hg.block B (blk_lt hb) (fun e => hne (Option.some.inj e)))
theorem box_kept {w W W' : World} {B : Nat} {l : List S24} {S : Nat → Prop} (h : Box w W B l) (hk : Kept W W' S) (hne : ¬ S B) : Box w W' B l := by
  have h' := h
  obtain ⟨_, A, c, hb, _⟩ := h'
  exact h.keep (hk.2 B (blk_lt hb) hne)
theorem box_lt {w W : World} {B : Nat} {l : List S24} (h : Box w W B l) : B < W.heap.size := by
  have h' := h
  obtain ⟨_, A, c, hb, _⟩ := h'
  exact blk_lt hb
/-- What is known within a round of a sweep. -/
structure Sw (w w2 : World) (B : Nat) (a a' : Addr) (d e : Int) (v : Value) (out : List S24) (W : World) (ra rb : List S24) : Prop where
  b1 : Below w.heap.size w w2
  b2 : Below w2.heap.size w2 W
  own : Kd.R k24 24 W w2.heap.size (fun k_ => k_ ≠ B ∧ k_ ≠ B + 1) v out
  x1 : Box w W B ra
  x2 : Box w W (B + 1) rb
  c0 : w2.cell? a = some (.int .i64 d)
  c1 : w2.cell? a' = some (.int .i64 e)
  hB : B = w2.heap.size
section
variable {w w2 : World} {B : Nat} {v : Value} {out : List S24} {a a' : Addr} {d e : Int} {W W' : World} {ra rb : List S24}
theorem Sw.cell0 (h : Sw w w2 B a a' d e v out W ra rb) : W.cell? a = some (.int .i64 d) := (h.b2.cell (World.block_lt_of_cell? w2 _ h.c0)).trans h.c0
theorem Sw.cell1 (h : Sw w w2 B a a' d e v out W ra rb) : W.cell? a' = some (.int .i64 e) := (h.b2.cell (World.block_lt_of_cell? w2 _ h.c1)).trans h.c1
theorem Sw.bw (h : Sw w w2 B a a' d e v out W ra rb) : Below w.heap.size w W := h.b1.trans (h.b2.mono h.b1.size)
theorem Sw.drew (h : Sw w w2 B a a' d e v out W ra rb) : Sw w w2 B a a' d e v out W.drew ra rb := ⟨h.b1, below_drew1 h.b2, Kd.R_drew h.own, h.x1, h.x2, h.c0, h.c1, h.hB⟩
theorem Sw.go1 (h : Sw w w2 B a a' d e v out W ra rb) : Calls Tryz.prog 122 #[.int .i64 d, .pointer (some ⟨B, 0, none⟩)] W fun r w' => r = .returned (.bool (inD ra d)) ∧ Sw w w2 B a a' d e v out w' (pastD ra d) rb := by
  refine (clo64 w W B ra d h.bw h.x1).mono ?_
  rintro r w' ⟨hr, hx, hg⟩
  exact ⟨hr, h.b1, h.b2.grown hg h.b2.size (fun k e' => by cases e'; exact Nat.le_of_eq h.hB.symm), Kd.R_grown h.own hg (fun k hk e' => hk.1 (Option.some.inj e')), hx, box_other h.x2 hg (by omega), h.c0, h.c1, h.hB⟩
theorem Sw.go2 (h : Sw w w2 B a a' d e v out W ra rb) : Calls Tryz.prog 122 #[.int .i64 d, .pointer (some ⟨B + 1, 0, none⟩)] W fun r w' => r = .returned (.bool (inD rb d)) ∧ Sw w w2 B a a' d e v out w' ra (pastD rb d) := by
  refine (clo64 w W (B + 1) rb d h.bw h.x2).mono ?_
  rintro r w' ⟨hr, hx, hg⟩
  have hB := h.hB
  exact ⟨hr, h.b1, h.b2.grown hg h.b2.size (fun k e' => by cases e'; omega), Kd.R_grown h.own hg (fun k hk e' => hk.2 (Option.some.inj e')), box_other h.x1 hg (by omega), hx, h.c0, h.c1, hB⟩
theorem Sw.add (h : Sw w w2 B a a' d e v out W ra rb) (hl : out.length < 8796093022208) : Calls Tryz.prog 57 #[v, .agg #[.int .i64 d, .int .i64 e]] W fun r w' => ∃ v', r = .returned v' ∧ Sw w w2 B a a' d e v' (addF out ⟨d, e⟩) w' ra rb := by
  refine (span_add.calls (fun k_ => k_ ≠ B ∧ k_ ≠ B + 1) v out d e (addF out ⟨d, e⟩) w2 W h.b2 h.own (add_f out d e hl)).mono ?_
  rintro r w' ⟨v', rfl, ho, hb, hk⟩
  have l1 := box_lt h.x1
  have l2 := box_lt h.x2
  refine ⟨v', rfl, h.b1, hb, Kd.R_mono ho (fun k hk' => ?_), h.x1.keep (hk.2 B l1 (fun hh => hh.1 rfl)), h.x2.keep (hk.2 (B + 1) l2 (fun hh => hh.2 rfl)), h.c0, h.c1, h.hB⟩
  rcases hk' with hk' | hk'
  · exact hk'
  · exact ⟨by omega, by omega⟩
end
set_option maxHeartbeats 8000000 in
set_option maxRecDepth 100000 in
theorem sweep_ok (kf : Bool → Bool → Bool) (gk0 : Nat) (hkeep : ∀ x y W, Calls Tryz.prog gk0 #[.bool x, .bool y] W fun e w' => e = .returned (.bool (kf x y)) ∧ w' = W) (eg : ∀ args w, (callFunc gk0 args).run Tryz.prog w = .ok (.enter gk0 args) w)
    (k : Nat) (A0 A1 : Option Addr) (c0 c1 : Nat) (l0 l1 : List S24) (w : World) (hr0 : Kd.C k24 w A0 l0.length l0) (hc0 : l0.length ≤ c0) (hr1 : Kd.C k24 w A1 l1.length l1) (hc1 : l1.length ≤ c1)
    (hv0 : span_Valid.f k l0 = some true) (hv1 : span_Valid.f k l1 = some true) (n0 : l0.length ≤ 1000) (n1 : l1.length ≤ 1000) :
    Calls Tryz.prog 59 #[.slice A0 l0.length c0, .slice A1 l1.length c1, .func (.func gk0) #[] #[]] w fun e w' => ∃ v, e = .returned (.tuple #[v, .int .i64 (limF (sweepL kf (endsF l0 l1) l0 l1 [])).2]) ∧ Kd.R k24 24 w' w.heap.size (fun _ => True) v (limF (sweepL kf (endsF l0 l1) l0 l1 [])).1 ∧ Below w.heap.size w w' := by
  have hu30 := Tryz.underlying24
  have HR0 := Lib.hid hr0
  have HR1 := Lib.hid hr1
  have HC0 := Lib.hid hc0
  have HC1 := Lib.hid hc1
  have HV0 := Lib.hid hv0
  have HV1 := Lib.hid hv1
  have HN := Lib.hid (And.intro n0 n1)
  have HK := Lib.hid hkeep
  have EG := Lib.hid eg
  have HB := Lib.hid (Below.refl w.heap.size w)
  clear hr0 hr1 hc0 hc1 hv0 hv1 n0 n1 hkeep eg
  go_enter Tryz.func59, Tryz.ntmps59
  go_wp2_with (first
    | (go_at_call 16; with_reducible refine (span_Valid.calls k A0 c0 l0 true _ ?s1 HC0.out HV0.out).mono ?_; (case s1 => first | exact Kd.C_below HR0.out HB.out | exact Kd.C_drew (Kd.C_below HR0.out HB.out)); rintro e w1 ⟨rfl, hb⟩; have hb2 : Below w.heap.size w w1 := below_step HB.out hb; clear HB; have HB := Lib.hid hb2; clear hb hb2)
    | (go_at_call 16; with_reducible refine (span_Valid.calls k A1 c1 l1 true _ ?s1 HC1.out HV1.out).mono ?_; (case s1 => first | exact Kd.C_below HR1.out HB.out | exact Kd.C_drew (Kd.C_below HR1.out HB.out)); rintro e w1 ⟨rfl, hb⟩; have hb2 : Below w.heap.size w w1 := below_step HB.out hb; clear HB; have HB := Lib.hid hb2; clear hb hb2))
  refine (ends_ok w (w1.alloc (.cells #[.slice A0 l0.length c0, .slice A1 l1.length c1] 33)) w1.heap.size A0 A1 c0 c1 l0 l1 (below_alloc HB.out _) (heap_alloc_new w1 _) HR0.out HR1.out HN.out.1 HN.out.2).mono ?_
  rintro e w2 ⟨Ae, ce, rfl, he1, he2, hb2⟩
  have hb3 : Below w.heap.size w w2 := below_step (below_alloc HB.out _) hb2
  clear hb2 HB
  have HB := Lib.hid hb3
  have HE := Lib.hid (And.intro he1 he2)
  have HEL := Lib.hid (endsF_len l0 l1)
  clear hb3 he1 he2
  have hpl := HN.out
  generalize hz : endsF l0 l1 = zs at HE HEL ⊢
  have HZ := Lib.hid hz
  clear hz hpl
  obtain ⟨N, hN⟩ : ∃ N : Nat, N = zs.length - 1 := ⟨_, rfl⟩
  have hlen : zs.length ≤ 4000 := by have := HEL.out; have := HN.out; omega
  have hmax : (if (zs.length : Int) - 1 < 0 then (0 : Int) else (zs.length : Int) - 1) = (N : Int) := by split <;> omega
  go_wp2_with (first
    | (go_at_call 93; with_reducible refine (walk49 A0 l0.length c0 _).mono ?_; rintro e w3 ⟨rfl, rfl⟩)
    | (go_at_call 93; with_reducible refine (walk49 A1 l1.length c1 _).mono ?_; rintro e w3 ⟨rfl, rfl⟩))
  clear hmax
  obtain ⟨w3, hw3⟩ : ∃ w_, w_ = (w2.alloc (.cells #[.slice A0 l0.length c0] 33)).alloc (.cells #[.slice A1 l1.length c1] 33) := ⟨_, rfl⟩
  have hx1 : Box w w3 w2.heap.size l0 := ⟨HB.out.size, A0, c0, by rw [hw3]; exact (blk_alloc (heap_alloc_new w2 _) _), HC0.out, HR0.out⟩
  have hx2 : Box w w3 (w2.heap.size + 1) l1 := ⟨Nat.le_trans HB.out.size (Nat.le_succ _), A1, c1, by rw [hw3]; have := heap_alloc_new (w2.alloc (.cells #[.slice A0 l0.length c0] 33)) (.cells #[.slice A1 l1.length c1] 33); rwa [World.size_alloc] at this, HC1.out, HR1.out⟩
  have hb3 : Below w2.heap.size w2 w3 := by rw [hw3]; exact below_alloc (below_alloc (Below.refl _ _) _) _
  rw [← hw3]
  obtain ⟨B, hBe⟩ : ∃ B, B = w2.heap.size := ⟨_, rfl⟩
  rw [← hBe] at hx1 hx2
  have HX1 := Lib.hid hx1
  have HX2 := Lib.hid hx2
  have HB3 := Lib.hid hb3
  clear hx1 hx2 hb3 hw3
  (try rw [← hBe])
  subst hN
  have HBE := Lib.hid hBe
  have HLEN := Lib.hid hlen
  clear hBe hlen
  obtain ⟨res, hres⟩ : ∃ r_, r_ = sweepL kf zs l0 l1 [] := ⟨_, rfl⟩
  have HRES := Lib.hid hres
  clear hres
  go_loopg [11, 33] (zs.length - 1) (fun kq v11 v33 w' => ∃ i : Nat, v33 = .int .i64 i ∧ ∃ ra rb out, Aside0 (i + kq = zs.length - 1 ∧ sweepL kf (zs.drop i) ra rb out = res ∧ out.length ≤ i ∧ Kd.R k24 24 w' w2.heap.size (fun k_ => k_ ≠ B ∧ k_ ≠ B + 1) v11 out ∧ Box w w' B ra ∧ Box w w' (B + 1) rb ∧ Below w2.heap.size w2 w'))
  case atStart => exact ⟨0, rfl, l0, l1, [], ⟨by omega, HRES.out.symm, Nat.le_refl _, Kd.R_nil _ _ _ _ _, HX1.out, HX2.out, HB3.out⟩⟩
  case round =>
    clear HX1 HX2 HB3
    obtain ⟨i, rfl, ra, rb, out, hi⟩ := hrel
    obtain ⟨hk, hs, hol, hR, hx1, hx2, hb3⟩ := hi.out
    clear hi
    have HO := Lib.hid hR
    have HX1 := Lib.hid hx1
    have HX2 := Lib.hid hx2
    have HB3 := Lib.hid hb3
    have HS := Lib.hid hs
    clear hR hx1 hx2 hb3 hs
    by_cases hlt : i < zs.length - 1
    · have q1 : decide ((i : Int) < ((zs.length - 1 : Nat) : Int)) = true := decide_eq_true (by omega)
      have q2 : ((i : Int) < ((zs.length - 1 : Nat) : Int)) = True := eq_true (by omega)
      obtain ⟨ad, he, x0⟩ := Kd.at_int HE.out.2 (i : Int) (by omega) (by omega)
      obtain ⟨ad2, he2, x1⟩ := Kd.at_int HE.out.2 ((i + 1 : Nat) : Int) (by omega) (by omega)
      rw [he] at he2
      obtain rfl := Option.some.inj he2
      rw [Int.toNat_natCast] at x0 x1
      have y0 := (HB3.out.cell (World.block_lt_of_cell? w2 _ x0)).trans x0
      have y1 := (HB3.out.cell (World.block_lt_of_cell? w2 _ x1)).trans x1
      have hadB : (ad.add i).block < B := by rw [HBE.out]; exact World.block_lt_of_cell? w2 _ x0
      have hadB1 : (ad.add (i + 1)).block < B := by rw [HBE.out]; exact World.block_lt_of_cell? w2 _ x1
      obtain ⟨hd1, hd2⟩ := drop_two zs i (by omega)
      generalize rd zs (i : Int) = d at x0 y0 hd1
      generalize rd zs ((i + 1 : Nat) : Int) = e at x1 y1 hd1 hd2
      have hss := HS.out
      rw [hd1, sweepL, ← hd2] at hss
      have HSS := Lib.hid hss
      clear hss HS hd1 hd2
      have p0 : decide ((0 : Int) ≤ (i : Int)) = true := decide_eq_true (by omega)
      have p1 : decide ((i : Int) < (zs.length : Int)) = true := decide_eq_true (by omega)
      have p2 : ((0 : Int) ≤ (i : Int)) = True := eq_true (by omega)
      have p3 : ((i : Int) < (zs.length : Int)) = True := eq_true (by omega)
      subst he
      have hsw : Sw w w2 B (ad.add i) (ad.add (i + 1)) d e u11 out wr ra rb := ⟨HB.out, HB3.out, HO.out, HX1.out, HX2.out, x0, x1, HBE.out⟩
      have HSW := Lib.hid hsw
      clear hsw x0 x1 HB3 HO HX1 HX2 y1
      go_wp2_with fail
      have eg := EG.out
      go_region_held3 (fun w' => w'.cell? (ad.add i) = some (.int .i64 d))
        (go_keep)
        (first
          | (go_at_call 122; with_reducible refine (Sw.go1 (w := w) (w2 := w2) (B := B) (a := ad.add i) (a' := ad.add (i + 1)) (d := d) (e := e) (v := u11) (out := out) (ra := ra) (rb := rb) ?s1).mono ?_; (case s1 => first | exact HSW.out | exact HSW.out.drew); rintro e' w5 ⟨rfl, hsw⟩; clear HSW; have HSW := Lib.hid hsw; have hc5 := hsw.cell0; clear hsw)
          | (go_at_call 122; with_reducible refine (Sw.go1 (w := w) (w2 := w2) (B := B) (a := ad.add i) (a' := ad.add (i + 1)) (d := d) (e := e) (v := u11) (out := out) (ra := ra) (rb := pastD rb d) ?s1).mono ?_; (case s1 => first | exact HSW.out | exact HSW.out.drew); rintro e' w5 ⟨rfl, hsw⟩; clear HSW; have HSW := Lib.hid hsw; have hc5 := hsw.cell0; clear hsw)
          | (go_at_call 122; with_reducible refine (Sw.go2 (w := w) (w2 := w2) (B := B) (a := ad.add i) (a' := ad.add (i + 1)) (d := d) (e := e) (v := u11) (out := out) (ra := ra) (rb := rb) ?s1).mono ?_; (case s1 => first | exact HSW.out | exact HSW.out.drew); rintro e' w5 ⟨rfl, hsw⟩; clear HSW; have HSW := Lib.hid hsw; have hc5 := hsw.cell0; clear hsw)
          | (go_at_call 122; with_reducible refine (Sw.go2 (w := w) (w2 := w2) (B := B) (a := ad.add i) (a' := ad.add (i + 1)) (d := d) (e := e) (v := u11) (out := out) (ra := pastD ra d) (rb := rb) ?s1).mono ?_; (case s1 => first | exact HSW.out | exact HSW.out.drew); rintro e' w5 ⟨rfl, hsw⟩; clear HSW; have HSW := Lib.hid hsw; have hc5 := hsw.cell0; clear hsw)
          | (go_at_fn gk0; refine (HK.out _ _ _).mono ?_; rintro e' w5 ⟨rfl, rfl⟩))
      all_goals
        have hl4 := HLEN.out
        have hw1 : IntKind.i64.wrap ((i : Int) + 1) = ((i + 1 : Nat) : Int) := by rw [IntKind.wrap_i64]; omega
        have r0 : decide ((0 : Int) ≤ ((i + 1 : Nat) : Int)) = true := decide_eq_true (by clear hw1; omega)
        have r1 : decide (((i + 1 : Nat) : Int) < (zs.length : Int)) = true := decide_eq_true (by clear hw1; omega)
        have r2 : ((0 : Int) ≤ ((i + 1 : Nat) : Int)) = True := eq_true (by clear hw1; omega)
        have r3 : (((i + 1 : Nat) : Int) < (zs.length : Int)) = True := eq_true (by clear hw1; omega)
        have r4 : decide ((0 : Int) ≤ (i : Int) + 1) = true := decide_eq_true (by clear hw1; omega)
        have r5 : decide ((i : Int) + 1 < (zs.length : Int)) = true := decide_eq_true (by clear hw1; omega)
        have r6 : ((0 : Int) ≤ (i : Int) + 1) = True := eq_true (by clear hw1; omega)
        have r7 : ((i : Int) + 1 < (zs.length : Int)) = True := eq_true (by clear hw1; omega)
        have hc0 := HSW.out.cell0
        have hc1 := HSW.out.cell1
        have haa : ad.add (i + 1) = ⟨ad.block, ad.off + (i + 1), none⟩ := by simp [Addr.add]
        rw [haa] at hc1
        have hol2 : out.length < 8796093022208 := by clear hw1; omega
        have HOL := Lib.hid hol2
        have hm : gk - 1 < gk := by clear hw1; omega
        have hsum : (i + 1) + (gk - 1) = zs.length - 1 := by clear hw1; omega
        have HSUM := Lib.hid hsum
        have hol3 := Lib.hid hol
        clear hol2 hl4 hsum
        go_wp2_with fail
        · have hkf : kf (inD ra d) (inD rb d) = true := by assumption
          go_region_held3 (fun w' => w'.cell? (ad.add i) = some (.int .i64 d) ∧ w'.cell? ⟨ad.block, ad.off + (i + 1), none⟩ = some (.int .i64 e))
            (go_keep)
            ((go_at_call 57; with_reducible refine (Sw.add (w := w) (w2 := w2) (B := B) (a := ad.add i) (a' := ad.add (i + 1)) (d := d) (e := e) (v := u11) (out := out) (ra := pastD ra d) (rb := pastD rb d) ?s1 HOL.out).mono ?_; (case s1 => first | exact HSW.out | exact HSW.out.drew); rintro e' w6 ⟨v6, rfl, hsw⟩; clear HSW; have HSW := Lib.hid hsw; have hc5 := hsw.cell0; have hc6 := hsw.cell1; rw [haa] at hc6; clear hsw))
          all_goals
            go_wp2
            go_roundg (gk - 1)
            case measure => exact hm
            case rel => exact ⟨i + 1, by simp, pastD ra d, pastD rb d, addF out ⟨d, e⟩, ⟨HSUM.out, by have := HSS.out; rw [if_pos hkf] at this; exact this, Nat.le_trans (addF_len _ _) (Nat.succ_le_succ hol3.out), HSW.out.own, HSW.out.x1, HSW.out.x2, HSW.out.b2⟩⟩
        · have hkf : kf (inD ra d) (inD rb d) = false := by assumption
          go_roundg (gk - 1)
          case measure => exact hm
          case rel => exact ⟨i + 1, by simp, pastD ra d, pastD rb d, out, ⟨HSUM.out, by have := HSS.out; rw [hkf, if_neg (by decide)] at this; exact this, Nat.le_succ_of_le hol3.out, HSW.out.own, HSW.out.x1, HSW.out.x2, HSW.out.b2⟩⟩
    · have q1 : decide ((i : Int) < ((zs.length - 1 : Nat) : Int)) = false := decide_eq_false (by omega)
      have q2 : ((i : Int) < ((zs.length - 1 : Nat) : Int)) = False := eq_false (by omega)
      have hout : out = res := by
        have := HS.out
        rw [sweepL_end kf _ ra rb out (by rw [List.length_drop]; omega)] at this
        exact this
      subst hout
      have hlf := limited_f out
      have HLF := Lib.hid hlf
      clear hlf
      go_wp2_with (first | (go_at_call 58; with_reducible refine (span_limited.calls (fun k_ => k_ ≠ B ∧ k_ ≠ B + 1) u11 out (limF out).1 (limF out).2 w2 _ ?s1 ?s2 HLF.out).mono ?_; (case s1 => first | exact HB3.out | exact HB3.out.drew); (case s2 => first | exact HO.out | exact Kd.R_drew HO.out); rintro e w4 ⟨v4, rfl, ho, hb, hk⟩; have HO4 := Lib.hid ho; have HB4 := Lib.hid hb; clear ho hb hk))
      go_ret2
      have hb5 : Below w.heap.size w w2 := HB.out
      rw [HZ.out, ← HRES.out]
      refine ⟨_, rfl, Kd.R_lower (Kd.R_mono HO4.out (fun _ _ => trivial)) HB.out.size, HB.out.trans (HB4.out.mono HB.out.size)⟩
theorem valid_len_l (l : List S24) : ∀ (k : Nat) (n i : Int), span_Valid.l0 k l n i = some true → l.length ≤ 1000
  | 0, n, i, h => by simp [span_Valid.l0] at h
  | k + 1, n, i, h => by
    have ih := valid_len_l l k
    rw [span_Valid.l0] at h
    split at h
    · split at h
      · split at h
        · obtain ⟨t, _, h⟩ := Option.bind_eq_some_iff.mp h
          split at h
          · split at h
            · split at h
              · split at h
                · split at h
                  · simp at h
                  · exact ih _ _ h
                · simp at h
              · simp at h
            · exact ih _ _ h
          · simp at h
        · simp at h
      · simp at h
    · have := of_decide_eq_true (Option.some.inj h)
      omega
theorem valid_len (l : List S24) (k : Nat) (h : span_Valid.f k l = some true) : l.length ≤ 1000 := valid_len_l l k _ _ h
def sweepO (kf : Bool → Bool → Bool) (k : Nat) (l0 l1 : List S24) : Option (List S24 × Int) := (span_Valid.f k l0).bind fun t0 => (if t0 = true then ((span_Valid.f k l1).bind fun t1 => (if t1 = true then (some (limF (sweepL kf (endsF l0 l1) l0 l1 []))) else (some (([] : List S24), 1)))) else (some (([] : List S24), 1)))
theorem sweepO_mono (kf : Bool → Bool → Bool) (k : Nat) (l0 l1 : List S24) : LeO (sweepO kf k l0 l1) (sweepO kf (k + 1) l0 l1) := by
  unfold sweepO
  refine LeO.bind (span_Valid.mono l0 k) (fun _ => LeO.ite ?_ (LeO.refl _))
  exact LeO.bind (span_Valid.mono l1 k) (fun _ => LeO.refl _)
set_option maxHeartbeats 8000000 in
set_option maxRecDepth 100000 in
theorem sweep_bad (gk0 : Nat) (k : Nat) (A0 A1 : Option Addr) (c0 c1 : Nat) (l0 l1 : List S24) (w : World) (hr0 : Kd.C k24 w A0 l0.length l0) (hc0 : l0.length ≤ c0) (hr1 : Kd.C k24 w A1 l1.length l1) (hc1 : l1.length ≤ c1)
    (hv : span_Valid.f k l0 = some false ∨ (span_Valid.f k l0 = some true ∧ span_Valid.f k l1 = some false)) :
    Calls Tryz.prog 59 #[.slice A0 l0.length c0, .slice A1 l1.length c1, .func (.func gk0) #[] #[]] w fun e w' => ∃ v, e = .returned (.tuple #[v, .int .i64 1]) ∧ Kd.R k24 24 w' w.heap.size (fun _ => True) v [] ∧ Below w.heap.size w w' := by
  have HR0 := Lib.hid hr0
  have HR1 := Lib.hid hr1
  have HC0 := Lib.hid hc0
  have HC1 := Lib.hid hc1
  have HB := Lib.hid (Below.refl w.heap.size w)
  clear hr0 hr1 hc0 hc1
  rcases hv with hv0 | ⟨hv0, hv1⟩
  · have HV0 := Lib.hid hv0
    clear hv0
    go_enter Tryz.func59, Tryz.ntmps59
    go_wp2_with (go_at_call 16; with_reducible refine (span_Valid.calls k A0 c0 l0 false _ ?s1 HC0.out HV0.out).mono ?_; (case s1 => first | exact Kd.C_below HR0.out HB.out | exact Kd.C_drew (Kd.C_below HR0.out HB.out)); rintro e w1 ⟨rfl, hb⟩; have hb2 : Below w.heap.size w w1 := below_step HB.out hb; clear HB; have HB := Lib.hid hb2; clear hb hb2)
    go_ret2
    exact ⟨_, rfl, Kd.R_nil _ _ _ _ _, by repeat (first | exact HB.out | apply pw_below_drewN | apply below_drew1)⟩
  · have HV0 := Lib.hid hv0
    have HV1 := Lib.hid hv1
    clear hv0 hv1
    go_enter Tryz.func59, Tryz.ntmps59
    go_wp2_with (first
      | (go_at_call 16; with_reducible refine (span_Valid.calls k A0 c0 l0 true _ ?s1 HC0.out HV0.out).mono ?_; (case s1 => first | exact Kd.C_below HR0.out HB.out | exact Kd.C_drew (Kd.C_below HR0.out HB.out)); rintro e w1 ⟨rfl, hb⟩; have hb2 : Below w.heap.size w w1 := below_step HB.out hb; clear HB; have HB := Lib.hid hb2; clear hb hb2)
      | (go_at_call 16; with_reducible refine (span_Valid.calls k A1 c1 l1 false _ ?s1 HC1.out HV1.out).mono ?_; (case s1 => first | exact Kd.C_below HR1.out HB.out | exact Kd.C_drew (Kd.C_below HR1.out HB.out)); rintro e w1 ⟨rfl, hb⟩; have hb2 : Below w.heap.size w w1 := below_step HB.out hb; clear HB; have HB := Lib.hid hb2; clear hb hb2))
    go_ret2
    exact ⟨_, rfl, Kd.R_nil _ _ _ _ _, by repeat (first | exact HB.out | apply pw_below_drewN | apply below_drew1)⟩
theorem sweep_all (kf : Bool → Bool → Bool) (gk0 : Nat) (hkeep : ∀ x y W, Calls Tryz.prog gk0 #[.bool x, .bool y] W fun e w' => e = .returned (.bool (kf x y)) ∧ w' = W) (eg : ∀ args w, (callFunc gk0 args).run Tryz.prog w = .ok (.enter gk0 args) w)
    (k : Nat) (A0 A1 : Option Addr) (c0 c1 : Nat) (l0 l1 : List S24) (r1 : List S24) (r2 : Int) (w : World) (hr0 : Kd.C k24 w A0 l0.length l0) (hc0 : l0.length ≤ c0) (hr1 : Kd.C k24 w A1 l1.length l1) (hc1 : l1.length ≤ c1) (h : sweepO kf k l0 l1 = some (r1, r2)) :
    Calls Tryz.prog 59 #[.slice A0 l0.length c0, .slice A1 l1.length c1, .func (.func gk0) #[] #[]] w fun e w' => ∃ v, e = .returned (.tuple #[v, .int .i64 r2]) ∧ Kd.R k24 24 w' w.heap.size (fun _ => True) v r1 ∧ Below w.heap.size w w' := by
  unfold sweepO at h
  obtain ⟨t0, hv0, h⟩ := Option.bind_eq_some_iff.mp h
  cases t0 with
  | true =>
    rw [if_pos rfl] at h
    obtain ⟨t1, hv1, h⟩ := Option.bind_eq_some_iff.mp h
    cases t1 with
    | true =>
      rw [if_pos rfl] at h
      have e := Option.some.inj h
      have e1 : (limF (sweepL kf (endsF l0 l1) l0 l1 [])).1 = r1 := by rw [e]
      have e2 : (limF (sweepL kf (endsF l0 l1) l0 l1 [])).2 = r2 := by rw [e]
      rw [← e1, ← e2]
      exact sweep_ok kf gk0 hkeep eg k A0 A1 c0 c1 l0 l1 w hr0 hc0 hr1 hc1 hv0 hv1 (valid_len l0 k hv0) (valid_len l1 k hv1)
    | false =>
      rw [if_neg (by decide)] at h
      simp only [Option.some.injEq, Prod.mk.injEq] at h
      obtain ⟨rfl, rfl⟩ := h
      exact sweep_bad gk0 k A0 A1 c0 c1 l0 l1 w hr0 hc0 hr1 hc1 (.inr ⟨hv0, hv1⟩)
  | false =>
    rw [if_neg (by decide)] at h
    simp only [Option.some.injEq, Prod.mk.injEq] at h
    obtain ⟨rfl, rfl⟩ := h
    exact sweep_bad gk0 k A0 A1 c0 c1 l0 l1 w hr0 hc0 hr1 hc1 (.inl hv0)

end

end Go.Proofs.YthcjocojngochaaGreatDoor.X
