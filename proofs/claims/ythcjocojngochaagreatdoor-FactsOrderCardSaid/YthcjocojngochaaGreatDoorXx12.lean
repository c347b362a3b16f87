-- Written by a program of mine (wip/tools/xprint.py) over the kit's print.py: printed functions and hand-proved ones side by side.
import Derived.Test.YthcjocojngochaaGreatDoorXx0
import Derived.Test.YthcjocojngochaaGreatDoorXx2
import Derived.Test.YthcjocojngochaaGreatDoorXx9
import Derived.Test.YthcjocojngochaaGreatDoorXx10
import Derived.Test.YthcjocojngochaaGreatDoorXx11
namespace Go.Proofs.YthcjocojngochaaGreatDoor.X
open Go.RowKit Go.Proofs.YthcjocojngochaaGreatDoorW.PrintWords Go.Proofs.YthcjocojngochaaGreatDoorW.PrintLast Go.Proofs.YthcjocojngochaaGreatDoorW.PrintMore
attribute [local go_sem] max2_int min2_int max_two min_two max_three min_three max_four min_four   -- for this text's walks alone
set_option linter.unusedVariables false
set_option linter.unusedSimpArgs false

/-! ### span_Normal: function 27 -/
-- by hand: cohousing/span.Normal
section
open Go.Sort (grow alloc_eq_grow grow_grow)
open Go.Sort (Holds putRow flatK HoldsK putRowK)
theorem holds30 {w : World} {g : Nat} {l : List S24} (h : ∀ j, j < l.length → w.cell? ⟨g, j * 2, none⟩ = some (.int .i64 (l[j]!).f0) ∧ w.cell? ⟨g, j * 2 + 1, none⟩ = some (.int .i64 (l[j]!).f1)) (hf : ∀ j, w.frozen? ⟨g, j, none⟩ = false) : HoldsK enc30 2 w g 0 l.toArray := by
  intro t ht
  rw [Go.Sort.size_flatK] at ht
  have ht' : t < l.length * 2 := by simpa using ht
  rw [Go.Sort.get_flatK _ _ _ _ ht, Nat.zero_add]
  refine ⟨?_, hf t⟩
  have hj := h (t / 2) (by omega)
  have e1 : (l.toArray)[t / 2]! = l[t / 2]! := by simp
  rw [e1]
  generalize l[t / 2]! = y at hj
  have hm : t % 2 = 0 ∨ t % 2 = 1 := by omega
  rcases hm with hm | hm
  · rw [hm, show t = t / 2 * 2 by omega]
    exact hj.1
  · rw [hm, show t = t / 2 * 2 + 1 by omega]
    exact hj.2
theorem row_of_holds {w : World} {g : Nat} {d : Array S24} (h : HoldsK enc30 2 w g 0 d) (hs : d.size ≤ 9223372036854775807) : Kd.C k24 w (some ⟨g, 0, none⟩) d.toList.length d.toList := by
  refine ⟨rfl, by simpa using hs, fun _ => ⟨_, rfl, fun j p hp => ⟨[.int .i64 p.f0, .int .i64 p.f1], rfl, k24_mk w p, fun i u hu => ?_⟩⟩⟩
  have hj : j < d.size := by
    have := (List.getElem?_eq_some_iff.mp hp).1
    simpa using this
  have ep : d[j]! = p := by
    have := (List.getElem?_eq_some_iff.mp hp).2
    rw [getElem!_pos d j hj, ← this]
    simp
  have hi : i < 2 := (List.getElem?_eq_some_iff.mp hu).1
  have hc := (h (j * 2 + i) (by rw [Go.Sort.size_flatK]; omega)).1
  rw [Go.Sort.get_flatK _ _ _ _ (by omega), Nat.zero_add, show (j * 2 + i) / 2 = j by omega, show (j * 2 + i) % 2 = i by omega, ep] at hc
  rw [show k24.sz = 2 from rfl, add_plain, hc]
  have : i = 0 ∨ i = 1 := by omega
  rcases this with rfl | rfl
  · simpa [enc30] using hu
  · simpa [enc30] using hu
theorem fl_get (l : List S24) : ∀ j, j < l.length → (fl l)[j * 2]? = some (.int .i64 (l[j]!).f0) ∧ (fl l)[j * 2 + 1]? = some (.int .i64 (l[j]!).f1) := by
  induction l with
  | nil => intro j h; simp at h
  | cons s r ih =>
    intro j h
    have e : fl (s :: r) = .int .i64 s.f0 :: .int .i64 s.f1 :: fl r := rfl
    rw [e]
    cases j with
    | zero => exact ⟨rfl, rfl⟩
    | succ j =>
      have := ih j (by simpa using h)
      rw [show (j + 1) * 2 = j * 2 + 1 + 1 by omega]
      exact this
set_option maxHeartbeats 2000000 in
set_option maxRecDepth 100000 in
theorem clone_empty (ad : Addr) (c : Nat) (W : World) : Calls Tryz.prog 53 #[.slice (some ad) 0 c] W fun e w' => ∃ p cap, e = .returned (.slice p 0 cap) ∧ Below W.heap.size W w' := by
  have q22 : ∀ (w : World) (a : Option Addr) (n c n' c' : Nat), (binOp .eql 33 (.slice a n c) (.slice none n' c')).run Tryz.prog w = .ok (.bool a.isNone) w := fun w a n c n' c' => Lib.run_eql_slice_nil w _ _ a n c n' c' Tryz.underlying33
  go_enter Tryz.func53, Tryz.ntmps53
  go_wp2
  go_ret
  exact ⟨_, _, rfl, below_alloc (Below.refl _ _) _⟩
theorem clone_ok (A0 : Option Addr) (c0 : Nat) (l0 : List S24) (W : World) (hC : Kd.C k24 W A0 l0.length l0) (hbig : l0.length < 8796093022208) :
    Calls Tryz.prog 53 #[.slice A0 l0.length c0] W fun e w' => ∃ v, e = .returned v ∧ ((l0 = [] ∧ ∃ p cap, v = .slice p 0 cap) ∨ (0 < l0.length ∧ ∃ g cap, v = .slice (some ⟨g, 0, none⟩) l0.length cap ∧ HoldsK enc30 2 w' g 0 l0.toArray ∧ g < w'.heap.size ∧ W.heap.size ≤ g)) ∧ Below W.heap.size W w' := by
  by_cases h0 : l0 = []
  · subst h0
    cases A0 with
    | none =>
      have hcon := AnyE.slices_Clone_nil Tryz.layClone 0 c0 W
      refine hcon.mono ?_
      rintro e w' ⟨rfl, rfl⟩
      exact ⟨_, rfl, .inl ⟨rfl, none, 0, rfl⟩, Below.refl _ _⟩
    | some ad =>
      refine (clone_empty ad c0 W).mono ?_
      rintro e w' ⟨p, cap, rfl, hb⟩
      exact ⟨_, rfl, .inl ⟨rfl, p, cap, rfl⟩, hb⟩
  · have hpos : 0 < l0.length := List.length_pos_iff.mpr h0
    obtain ⟨b, off, rfl, hb, hc⟩ := row30 hC hpos
    obtain ⟨i0, hi, hzz⟩ := Option.map_eq_some_iff.1 info24
    simp only [Prod.mk.injEq] at hzz
    obtain ⟨hz0, hz1, hz2⟩ := hzz
    have hnews : ∀ j u, (fl l0)[j]? = some u → W.cell? ⟨b, off + j, none⟩ = some u := by
      intro j u hu
      have hj := (List.getElem?_eq_some_iff.mp hu).1
      rw [fl_len] at hj
      have hh := hc (j / 2) (by omega)
      have hfl : (fl l0)[j]? = some (if j % 2 = 0 then .int .i64 (l0[j / 2]!).f0 else .int .i64 (l0[j / 2]!).f1) := by
        have hg := fl_get l0 (j / 2) (by omega)
        have hm : j % 2 = 0 ∨ j % 2 = 1 := by omega
        rcases hm with hm | hm
        · have e : j / 2 * 2 = j := by omega
          rw [if_pos hm, ← hg.1, e]
        · have e : j / 2 * 2 + 1 = j := by omega
          rw [if_neg (by omega), ← hg.2, e]
      rw [hfl] at hu
      obtain rfl := Option.some.inj hu
      have hm : j % 2 = 0 ∨ j % 2 = 1 := by omega
      rcases hm with hm | hm
      · rw [if_pos hm, show off + j = off + j / 2 * 2 by omega]
        exact hh.1
      · rw [if_neg (by omega), show off + j = off + j / 2 * 2 + 1 by omega]
        exact hh.2
    have hone : ∀ u ∈ fl l0, u.oneCell' = true := by
      intro u hu
      unfold fl at hu
      obtain ⟨s, _, hs⟩ := List.mem_flatMap.mp hu
      simp at hs
      rcases hs with rfl | rfl <;> rfl
    refine (AnyE.slices_Clone Tryz.layClone i0 _ 2 16 hi hz0 hz1 hz2 rfl (by decide) Tryz.sizeOf24 b off l0.length c0 (fl l0) W (by rw [fl_len]; omega) (by simp only [maxLen]; omega) (by omega) hnews hone).mono ?_
    rintro e w' ⟨v', rfl, ho, hne, hbel⟩
    refine ⟨v', rfl, .inr ⟨hpos, ?_⟩, hbel⟩
    rcases ho.2 with ⟨_, h0'⟩ | ⟨g, cap, cur, hv, hg, hh, hcap, hmax, hcs, htake⟩
    · omega
    · refine ⟨g, cap, hv, ?_, (Array.getElem?_eq_some_iff.mp hh).1, hg⟩
      refine holds30 (fun j hj => ?_) (fun j => by simp [World.frozen?, hh])
      have hgt := fl_get l0 j hj
      have c1 := ho.cells (g := g) (by rw [hv]; rfl) _ _ hgt.1
      have c2 := ho.cells (g := g) (by rw [hv]; rfl) _ _ hgt.2
      rw [add_plain] at c1 c2
      exact ⟨c1, c2⟩
set_option maxHeartbeats 2000000 in
theorem sort_none (p : Option Addr) (cap : Nat) (fv : Value) (W : World) : Calls Tryz.prog 54 #[.slice p 0 cap, fv] W fun e w' => e = .returned (.tuple #[]) ∧ w' = W := by
  have hins : ∀ W, Calls Tryz.prog 113 #[.slice p 0 cap, .int .i64 0, .int .i64 0, fv] W fun e w' => e = .returned (.tuple #[]) ∧ w' = W := by
    intro W
    go_enter Tryz.func113, Tryz.ntmps113
    go_wp2
    refine wp_loop_rounds 1 ?_
    rw [rounds_succ]
    go_wp2
    go_end0
    exact ⟨rfl, rfl⟩
  have HI := Lib.hid hins
  clear hins
  have hpdq : ∀ (lim : Int) W, Calls Tryz.prog 89 #[.slice p 0 cap, .int .i64 0, .int .i64 0, .int .i64 lim, fv] W fun e w' => e = .returned (.tuple #[]) ∧ w' = W := by
    intro lim W
    go_enter Tryz.func89, Tryz.ntmps89
    go_wp2
    refine wp_loop_rounds 1 ?_
    rw [rounds_succ]
    go_wp2_with (go_at_call 113; refine (HI.out _).mono ?_; rintro e w' ⟨rfl, rfl⟩)
    (try simp only [Exit.inBlock, Exit.then])
    refine bodyPost_ret (results_none rfl _ _ _) rfl ?_
    exact ⟨rfl, rfl⟩
  have HP := Lib.hid hpdq
  clear hpdq
  have hlen := Tryz.bits_Len 0 W (by omega) (by omega)
  have HL := Lib.hid hlen
  clear hlen
  go_enter Tryz.func54, Tryz.ntmps54
  go_wp2_with (first
    | (go_at_call 81; refine HL.out.mono ?_; rintro e w' ⟨rfl, rfl⟩)
    | (go_at_call 89; refine (HP.out _ _).mono ?_; rintro e w' ⟨rfl, rfl⟩))
  go_end0
  exact ⟨rfl, rfl⟩
/-- The comparison of stretches by their first day. -/
def cf30 (x y : S24) : Int := Lib.compareInt x.f0 y.f0
theorem lt30 (x y : S24) : ltOf cf30 x y = decide (x.f0 < y.f0) := by
  unfold ltOf cf30 Lib.compareInt
  by_cases h1 : x.f0 < y.f0
  · simp [h1]
  · by_cases h2 : y.f0 < x.f0 <;> simp [h1, h2]
theorem swo30 : Go.Sort.SWO (ltOf cf30) where
  irrefl x := by rw [lt30]; simp
  trans x y z h1 h2 := by rw [lt30] at *; simp at *; omega
  ntrans x y z h1 h2 := by rw [lt30] at *; simp at *; omega
/-- Stretches sorted by their first day, as the library sorts them. -/
def sorted30 (l : List S24) : List S24 := (Go.Sort.pdq (ltOf cf30) l.toArray 0 l.toArray.size (Lib.bitLen l.toArray.size) true true).toList
open Go.Sort (Holds putRow flatK HoldsK putRowK)
theorem below_putRow' {α : Type} [Inhabited α] (enc : α → Value) {w0 w : World} {B : Nat} (h : Below B w0 w) (blk off : Nat) (d : Array α) (hb : B ≤ blk) (m : Nat) : Below B w0 (putRow enc (Go.Sort.ahead w m) blk off d) := by
  refine ⟨h.os, h.tape, h.output, by simp [Go.Sort.ahead, h.size], fun k hk => ?_⟩
  rw [← h.block k hk]
  simp only [putRow, Go.Sort.mapBlock, Array.getElem?_modify]
  rw [if_neg (by omega)]
  rfl
theorem sorted30_len (l : List S24) : (sorted30 l).length = l.length := by
  have h := Go.Sort.pdq_sorts (ltOf cf30) swo30 l.toArray 0 l.toArray.size (Lib.bitLen l.toArray.size) true true (Nat.zero_le _) (Nat.le_refl _) (Or.inl rfl)
  have := h.1.1
  unfold sorted30
  simpa using this
theorem sort_ok (W w1 : World) (g B cap : Nat) (l : List S24) (hpos : 0 < l.length) (hbig : l.length < 8796093022208) (hB0 : Below W.heap.size W w1) (hg0 : W.heap.size ≤ g) (hg : g < w1.heap.size) (hH : HoldsK enc30 2 w1 g 0 l.toArray) (hne : B ≠ g) (hc : w1.cell? ⟨B, 0, none⟩ = some (.func (.func 56) #[] #[])) :
    Calls Tryz.prog 54 #[.slice (some ⟨g, 0, none⟩) l.length cap, .func (.func 90) #[] #[.pointer (some ⟨B, 0, none⟩)]] w1 fun e w' => e = .returned (.tuple #[]) ∧ Kd.C k24 w' (some ⟨g, 0, none⟩) (sorted30 l).length (sorted30 l) ∧ Below W.heap.size W w' := by
  have eg : ∀ args w, (callFunc 90 args).run Tryz.prog w = .ok (.enter 90 args) w := enters_of Tryz.func90 (by kernel_rfl) rfl
  have hB1 := World.block_lt_of_cell? w1 _ hc
  have hcmp : CmpLays Tryz.prog 90 #[.pointer (some ⟨B, 0, none⟩)] enc30 2 cf30 g 0 l.toArray.size w1 := by
    intro m os dk hdk x y
    have hcc : (sortWorldK enc30 2 w1 g 0 m dk os).cell? ⟨B, 0, none⟩ = some (.func (.func 56) #[] #[]) := by
      unfold sortWorldK
      have hs : (putRowK enc30 2 (Go.Sort.ahead w1 m) g 0 dk).heap.size = w1.heap.size := by
        unfold putRowK
        rw [Go.Sort.size_putRow]
        rfl
      rw [Go.Sort.cell?_grow _ _ _ (by rw [hs]; exact hB1)]
      unfold putRowK
      rw [Go.Sort.cell?_putRow_other _ _ _ _ _ _ (.inl hne)]
      exact hc
    exact clo46 x y B _ hcc
  have hcon := AnyQ.slices_SortFunc_eq Tryz.laySort 2 Tryz.isAgg24 Tryz.sizeOf24 enc30 (fun _ => rfl) (fun x v hv => by simp [enc30] at hv; rcases hv with rfl | rfl <;> rfl) cf30 swo30 90 #[.pointer (some ⟨B, 0, none⟩)] g 0 cap l.toArray w1 eg hcmp hH hg (by simp; omega)
  refine hcon.mono ?_
  rintro e w' ⟨rfl, n, os, hw⟩
  have hlen : (sorted30 l).length = l.length := sorted30_len l
  have hsz : (Go.Sort.pdq (ltOf cf30) l.toArray 0 l.toArray.size (Lib.bitLen l.toArray.size) true true).size = l.toArray.size := by
    have : (Go.Sort.pdq (ltOf cf30) l.toArray 0 l.toArray.size (Lib.bitLen l.toArray.size) true true).size = (sorted30 l).length := by unfold sorted30; simp
    rw [this, hlen]
    simp
  have hH2 : HoldsK enc30 2 w' g 0 (Go.Sort.pdq (ltOf cf30) l.toArray 0 l.toArray.size (Lib.bitLen l.toArray.size) true true) := by
    rw [hw]
    unfold sortWorldK
    refine Go.Sort.holdsK_grow enc30 2 _ _ _ _ _ ?_ (Go.Sort.holdsK_putRowK enc30 2 _ _ _ _ _ (Go.Sort.holdsK_ahead enc30 2 _ _ _ _ _ hH) hsz)
    unfold putRowK
    rw [Go.Sort.size_putRow]
    exact hg
  refine ⟨rfl, ?_, ?_⟩
  · have := row_of_holds hH2 (by rw [hsz]; simp; omega)
    exact this
  · rw [hw]
    unfold sortWorldK putRowK
    have hw1 := hB0.size
    exact below_grow' (below_putRow' id hB0 g 0 _ hg0 n) (by rw [Go.Sort.size_putRow]; exact hw1) os
/-- From and Until are those of a stretch. -/
def strB (s : S24) : Bool := decide (0 ≤ s.f0) && (decide (s.f0 < s.f1) && decide (s.f1 ≤ 36525))
theorem stretch_f (x y : Int) : span_stretch.f x y = some (strB ⟨x, y⟩) := by
  unfold span_stretch.f strB
  by_cases h1 : 0 ≤ x
  · by_cases h2 : x < y
    · rw [if_pos h1, if_pos h2]; simp [h1, h2]
    · rw [if_pos h1, if_neg h2]; simp [h1, h2]
  · rw [if_neg h1]; simp [h1]
def normF (l : List S24) : List S24 × Int := if l.all strB then limF ((sorted30 l).foldl addF []) else ([], 1)
def span_Normal.f (l0 : List S24) : Option (List S24 × Int) := if l0.length < 8796093022208 then some (normF l0) else none
theorem rd30_nat (l : List S24) (j : Nat) (h : j < l.length) : rd_T24 l (j : Int) = l[j] := by
  unfold rd_T24
  rw [Int.toNat_natCast, List.getD_eq_getElem?_getD, List.getElem?_eq_getElem h]
  rfl
theorem drop_one (l : List S24) (j : Nat) (h : j < l.length) : l.drop j = rd_T24 l (j : Int) :: l.drop (j + 1) := by
  rw [rd30_nat l j h]
  exact List.drop_eq_getElem_cons h
theorem sort_any (w w2 : World) (v : Value) (l : List S24) (hbig : l.length < 8796093022208) (hB : Below w.heap.size w w2)
    (hcl : (l = [] ∧ ∃ p cap, v = .slice p 0 cap) ∨ (0 < l.length ∧ ∃ g cap, v = .slice (some ⟨g, 0, none⟩) l.length cap ∧ Go.Sort.HoldsK enc30 2 w2 g 0 l.toArray ∧ g < w2.heap.size ∧ w.heap.size ≤ g)) :
    Calls Tryz.prog 54 #[v, .func (.func 90) #[] #[.pointer (some ⟨w2.heap.size, 0, none⟩)]] (w2.alloc (.cells #[.func (.func 56) #[] #[]] 79)) fun e w' => e = .returned (.tuple #[]) ∧ (∃ A cp, v = .slice A (sorted30 l).length cp ∧ Kd.C k24 w' A (sorted30 l).length (sorted30 l)) ∧ Below w.heap.size w w' := by
  have hs := sorted30_len l
  rcases hcl with ⟨h0, p, cap, rfl⟩ | ⟨hpos, g, cap, rfl, hH, hg, hgb⟩
  · refine (sort_none p cap _ _).mono ?_
    rintro e w' ⟨rfl, rfl⟩
    have e0 : sorted30 l = [] := List.length_eq_zero_iff.mp (by rw [hs, h0]; rfl)
    rw [e0]
    exact ⟨rfl, ⟨p, cap, rfl, ⟨rfl, by simp, fun h => absurd h (Nat.lt_irrefl 0)⟩⟩, below_alloc hB _⟩
  · refine (sort_ok w _ g w2.heap.size cap l hpos hbig (below_alloc hB _) hgb (by rw [World.size_alloc]; omega) ?_ (by omega) ?_).mono ?_
    · rw [alloc_eq_grow]
      exact Go.Sort.holdsK_grow enc30 2 _ _ _ _ _ hg hH
    · exact (blk_cell (heap_alloc_new w2 _) 0).trans rfl
    · rintro e w' ⟨rfl, hC, hb⟩
      exact ⟨rfl, ⟨_, cap, by rw [hs], hC⟩, hb⟩
theorem foldl_take (l : List S24) (j : Nat) (out : List S24) (h : j < l.length) : (l.drop j).foldl addF out = (l.drop (j + 1)).foldl addF (addF out (rd_T24 l (j : Int))) := by
  rw [drop_one l j h]
  rfl
set_option maxHeartbeats 8000000 in
set_option maxRecDepth 100000 in
theorem span_Normal.calls (A0 : Option Addr) (c0 : Nat) (l0 : List S24) (r1 : List S24) (r2 : Int) (w : World) (hr0 : Kd.C k24 w A0 l0.length l0) (hc0 : l0.length ≤ c0) (h : span_Normal.f l0 = some (r1, r2)) :
    Calls Tryz.prog 27 #[.slice A0 l0.length c0] w fun e w' => ∃ v0_ : Value, e = .returned (.tuple #[v0_, .int .i64 r2]) ∧ Kd.R k24 24 w' w.heap.size (fun _ => True) v0_ r1 ∧ Below w.heap.size w w' := by
  have hu30 := Tryz.underlying24
  unfold span_Normal.f at h
  have hbig : l0.length < 8796093022208 := by
    rcases Nat.lt_or_ge l0.length 8796093022208 with h1 | h1
    · exact h1
    · rw [if_neg (by omega)] at h
      simp at h
  rw [if_pos hbig] at h
  have hn : normF l0 = (r1, r2) := Option.some.inj h
  have HN := Lib.hid hn
  have HR0 := Lib.hid hr0
  have HC0 := Lib.hid hc0
  have HBIG := Lib.hid hbig
  have HB := Lib.hid (Below.refl w.heap.size w)
  clear h hn hr0 hc0 hbig
  go_enter Tryz.func27, Tryz.ntmps27
  go_wp2
  go_loopg [12] (l0.length) (fun kq v12 w' => ∃ i : Nat, v12 = .int .i64 i ∧ Aside0 (i + kq = l0.length ∧ l0.all strB = (l0.drop i).all strB ∧ Below w.heap.size w w'))
  case atStart => exact ⟨0, rfl, ⟨by omega, rfl, HB.out⟩⟩
  case round =>
    clear HB
    obtain ⟨i, rfl, hi⟩ := hrel
    obtain ⟨hk, ha, hb⟩ := hi.out
    clear hi
    have HB := Lib.hid hb
    have HA := Lib.hid ha
    clear hb ha
    by_cases hlt : i < l0.length
    · obtain ⟨ad, e, x0, x1⟩ := at_T24 HR0.out (i : Int) (by omega) (by omega)
      subst e
      rw [Int.toNat_natCast] at x0 x1
      have y0 := (HB.out.cell (World.block_lt_of_cell? w _ x0)).trans x0
      have y1 := (HB.out.cell (World.block_lt_of_cell? w _ x1)).trans x1
      have hd := HA.out
      rw [drop_one l0 i hlt, List.all_cons] at hd
      generalize rd_T24 l0 (i : Int) = s at x0 x1 y0 y1 hd
      have HD := Lib.hid hd
      have hbig := HBIG.out
      have hw1 : IntKind.i64.wrap ((i : Int) + 1) = ((i + 1 : Nat) : Int) := by rw [IntKind.wrap_i64]; omega
      have hm : l0.length - (i + 1) < gk := by clear hw1; omega
      have hsum : (i + 1) + (l0.length - (i + 1)) = l0.length := by clear hw1; omega
      clear hd x0 x1 hbig
      have q1 : decide ((i : Int) < (l0.length : Int)) = true := decide_eq_true (by clear hw1; omega)
      have q0 : decide ((0 : Int) ≤ (i : Int)) = true := decide_eq_true (by clear hw1; omega)
      have q2 : ((i : Int) < (l0.length : Int)) = True := eq_true (by clear hw1; omega)
      have q3 : ((0 : Int) ≤ (i : Int)) = True := eq_true (by clear hw1; omega)
      cases hst : strB s with
      | true =>
        go_wp2_with (go_at_call 40; with_reducible refine (span_stretch.calls s.f0 s.f1 true _ (by rw [stretch_f]; exact congrArg some hst)).mono ?_; rintro e w2 ⟨rfl, hb⟩; have hb2 : Below w.heap.size w w2 := below_step (below_alloc HB.out _) hb; have HB2 := Lib.hid hb2; clear hb hb2)
        go_roundg (l0.length - (i + 1))
        case measure => exact hm
        case rel => exact ⟨i + 1, by simp, ⟨hsum, by rw [HD.out, hst, Bool.true_and], HB2.out⟩⟩
      | false =>
        go_wp2_with (go_at_call 40; with_reducible refine (span_stretch.calls s.f0 s.f1 false _ (by rw [stretch_f]; exact congrArg some hst)).mono ?_; rintro e w2 ⟨rfl, hb⟩; have hb2 : Below w.heap.size w w2 := below_step (below_alloc HB.out _) hb; have HB2 := Lib.hid hb2; clear hb hb2)
        go_ret2
        have e1 := HN.out
        unfold normF at e1
        rw [if_neg (by rw [HD.out, hst]; simp)] at e1
        simp only [Prod.mk.injEq] at e1
        obtain ⟨rfl, rfl⟩ := e1
        exact ⟨_, rfl, Kd.R_nil _ _ _ _ _, HB2.out⟩
    · have q1 : decide ((i : Int) < (l0.length : Int)) = false := decide_eq_false (by omega)
      have q2 : ((i : Int) < (l0.length : Int)) = False := eq_false (by omega)
      have hall : l0.all strB = true := by
        rw [HA.out, List.drop_of_length_le (by omega)]
        rfl
      have e1 := HN.out
      unfold normF at e1
      rw [if_pos hall] at e1
      have HE := Lib.hid e1
      clear e1 HA
      go_wp2_with (go_at_call 53; with_reducible refine (clone_ok A0 c0 l0 _ ?s1 HBIG.out).mono ?_; (case s1 => first | exact Kd.C_below HR0.out HB.out | exact Kd.C_drew (Kd.C_below HR0.out HB.out)); rintro e w2 ⟨v2, rfl, hcl, hb2⟩; have HCL := Lib.hid (show (l0 = [] ∧ ∃ p cap, v2 = .slice p 0 cap) ∨ (0 < l0.length ∧ ∃ g cap, v2 = .slice (some ⟨g, 0, none⟩) l0.length cap ∧ Go.Sort.HoldsK enc30 2 w2 g 0 l0.toArray ∧ g < w2.heap.size ∧ w.heap.size ≤ g) from by (rcases hcl with h | ⟨hp, g, cap, h1, h2, h3, h4⟩; (· exact .inl h); (· exact .inr ⟨hp, g, cap, h1, h2, h3, Nat.le_trans HB.out.size h4⟩))); have hb3 : Below w.heap.size w w2 := below_step HB.out hb2; have HB3 := Lib.hid hb3; clear hcl hb2 hb3)
      refine (by31 w2).mono ?_
      rintro e w3 ⟨rfl, rfl⟩
      go_wp2_with fail
      refine (sort_any w w2 v2 l0 HBIG.out HB3.out HCL.out).mono ?_
      rintro e w4 ⟨rfl, ⟨As, cs, hv, hC⟩, hb4⟩
      have hlen := sorted30_len l0
      have hbl := HBIG.out
      subst hv
      generalize hsr : sorted30 l0 = srt at hC hlen HE HCL ⊢
      have HCS := Lib.hid hC
      have HB4 := Lib.hid hb4
      obtain ⟨res, hres⟩ : ∃ r_, r_ = srt.foldl addF [] := ⟨_, rfl⟩
      have HRES := Lib.hid hres
      have HSL := Lib.hid (show srt.length < 8796093022208 by omega)
      have HE2 := Lib.hid (show limF res = (r1, r2) by rw [hres]; exact HE.out)
      clear hC hb4 hres hlen hbl HE HCL hsr HB3
      go_wp2
      go_loopg [7, 27] (srt.length) (fun kq v7 v27 w' => ∃ j : Nat, v27 = .int .i64 j ∧ ∃ out, Aside0 (j + kq = srt.length ∧ (srt.drop j).foldl addF out = res ∧ out.length ≤ j ∧ Kd.R k24 24 w' w4.heap.size (fun _ => True) v7 out ∧ Below w4.heap.size w4 w'))
      case atStart => exact ⟨0, rfl, [], ⟨by omega, HRES.out.symm, Nat.le_refl _, Kd.R_nil _ _ _ _ _, Below.refl _ _⟩⟩
      case round =>
        obtain ⟨j, rfl, out, hj⟩ := hrel
        obtain ⟨hk2, hfo, hol, hR, hb5⟩ := hj.out
        clear hj HRES
        have HFO := Lib.hid hfo
        have HR5 := Lib.hid hR
        have HB5 := Lib.hid hb5
        clear hfo hR hb5
        by_cases hlt : j < srt.length
        · obtain ⟨ad, e, x0, x1⟩ := at_T24 HCS.out (j : Int) (by omega) (by omega)
          subst e
          rw [Int.toNat_natCast] at x0 x1
          have y0 := (HB5.out.cell (World.block_lt_of_cell? w4 _ x0)).trans x0
          have y1 := (HB5.out.cell (World.block_lt_of_cell? w4 _ x1)).trans x1
          have hd := HFO.out
          rw [foldl_take srt j out hlt] at hd
          generalize rd_T24 srt (j : Int) = s at x0 x1 y0 y1 hd
          have HD := Lib.hid hd
          have hsl := HSL.out
          have hw1 : IntKind.i64.wrap ((j : Int) + 1) = ((j + 1 : Nat) : Int) := by rw [IntKind.wrap_i64]; omega
          have hm : srt.length - (j + 1) < gk := by clear hw1; omega
          have hsum : (j + 1) + (srt.length - (j + 1)) = srt.length := by clear hw1; omega
          have HOL := Lib.hid (show out.length < 8796093022208 by clear hw1; omega)
          have HO3 := Lib.hid (show (addF out s).length ≤ j + 1 from Nat.le_trans (addF_len _ _) (Nat.succ_le_succ hol))
          clear hd x0 x1 hsl hol
          have q1 : decide ((j : Int) < (srt.length : Int)) = true := decide_eq_true (by clear hw1; omega)
          have q0 : decide ((0 : Int) ≤ (j : Int)) = true := decide_eq_true (by clear hw1; omega)
          have q2 : ((j : Int) < (srt.length : Int)) = True := eq_true (by clear hw1; omega)
          have q3 : ((0 : Int) ≤ (j : Int)) = True := eq_true (by clear hw1; omega)
          go_wp2_with (go_at_call 57; with_reducible refine (span_add.calls (fun _ => True) u7 out s.f0 s.f1 (addF out s) w4 _ ?s1 ?s2 (add_f out s.f0 s.f1 HOL.out)).mono ?_; (case s1 => exact below_alloc HB5.out _); (case s2 => exact Kd.R_alloc HR5.out _); rintro e w6 ⟨v6, rfl, ho, hb, hk⟩; have HO6 := Lib.hid ho; have HB6 := Lib.hid hb; clear ho hb hk)
          go_roundg (srt.length - (j + 1))
          case measure => exact hm
          case rel => exact ⟨j + 1, by simp, addF out s, ⟨hsum, HD.out, HO3.out, Kd.R_mono HO6.out (fun _ _ => trivial), HB6.out⟩⟩
        · have q1 : decide ((j : Int) < (srt.length : Int)) = false := decide_eq_false (by omega)
          have q2 : ((j : Int) < (srt.length : Int)) = False := eq_false (by omega)
          have hout : out = res := by
            have := HFO.out
            rw [List.drop_of_length_le (by omega)] at this
            exact this
          subst hout
          have HLF := Lib.hid ((limited_f out).trans (congrArg some HE2.out))
          go_wp2_with (go_at_call 58; with_reducible refine (span_limited.calls (fun _ => True) u7 out r1 r2 w4 _ ?s1 ?s2 HLF.out).mono ?_; (case s1 => first | exact HB5.out | exact HB5.out.drew); (case s2 => first | exact HR5.out | exact Kd.R_drew HR5.out); rintro e w7 ⟨v7, rfl, ho, hb, hk⟩; have HO7 := Lib.hid ho; have HB7 := Lib.hid hb; clear ho hb hk)
          go_ret2
          exact ⟨_, rfl, Kd.R_lower (Kd.R_mono HO7.out (fun _ _ => trivial)) HB4.out.size, HB4.out.trans (HB7.out.mono HB4.out.size)⟩
end

end Go.Proofs.YthcjocojngochaaGreatDoor.X
