-- Written by a program of mine (wip/tools/xprint.py) over the kit's print.py: printed functions and hand-proved ones side by side.
import Derived.Test.YtnkgnjklkocojaaGreatDoorXx0
import Derived.Test.YtnkgnjklkocojaaGreatDoorXx2
import Derived.Test.YtnkgnjklkocojaaGreatDoorXx4
import Derived.Test.YtnkgnjklkocojaaGreatDoorXx5
import Derived.Test.YtnkgnjklkocojaaGreatDoorXx6
import Derived.Test.YtnkgnjklkocojaaGreatDoorXx7
namespace Go.Proofs.YtnkgnjklkocojaaGreatDoor.X
open Go.RowKit Go.Proofs.YtnkgnjklkocojaaGreatDoorW.PrintWords Go.Proofs.YtnkgnjklkocojaaGreatDoorW.PrintLast Go.Proofs.YtnkgnjklkocojaaGreatDoorW.PrintMore
attribute [local go_sem] max2_int min2_int max_two min_two max_three min_three max_four min_four   -- for this text's walks alone
set_option linter.unusedVariables false
set_option linter.unusedSimpArgs false

/-! ### span_Normal: function 38 -/
-- by hand: cohousing/span.Normal
section
open Go.Sort (grow alloc_eq_grow grow_grow)
open Go.Sort (Holds putRow flatK HoldsK putRowK)
theorem holds30 {w : World} {g : Nat} {l : List S24} (h : ∀ j, j < l.length → w.cell? ⟨g, j * 2, none⟩ = some (.int .i64 (l[j]!).f0) ∧ w.cell? ⟨g, j * 2 + 1, none⟩ = some (.int .i64 (l[j]!).f1)) (hf : ∀ j, w.frozen? ⟨g, j, none⟩ = false) : HoldsK enc30 2 w g 0 l.toArray := by
  intro t ht
  rw [Go.Sort.size_flatK] at ht
  have ht' : t < l.length * 2 := by simpa using ht
  rw [Go.Sort.get_flatK _ _ _ _ ht, Nat.zero_add]
  refine ⟨?_, hf t⟩
  have hj := h (t / 2) (by omega)
  have e1 : (l.toArray)[t / 2]! = l[t / 2]! := by simp
  rw [e1]
  generalize l[t / 2]! = y at hj
  have hm : t % 2 = 0 ∨ t % 2 = 1 := by omega
  rcases hm with hm | hm
  · rw [hm, show t = t / 2 * 2 by omega]
    exact hj.1
  · rw [hm, show t = t / 2 * 2 + 1 by omega]
    exact hj.2
theorem row_of_holds {w : World} {g : Nat} {d : Array S24} (h : HoldsK enc30 2 w g 0 d) (hs : d.size ≤ 9223372036854775807) : Kd.C k24 w (some ⟨g, 0, none⟩) d.toList.length d.toList := by
  refine ⟨rfl, by simpa using hs, fun _ => ⟨_, rfl, fun j p hp => ⟨[.int .i64 p.f0, .int .i64 p.f1], rfl, k24_mk w p, fun i u hu => ?_⟩⟩⟩
  have hj : j < d.size := by
    have := (List.getElem?_eq_some_iff.mp hp).1
    simpa using this
  have ep : d[j]! = p := by
    have := (List.getElem?_eq_some_iff.mp hp).2
    rw [getElem!_pos d j hj, ← this]
    simp
  have hi : i < 2 := (List.getElem?_eq_some_iff.mp hu).1
  have hc := (h (j * 2 + i) (by rw [Go.Sort.size_flatK]; omega)).1
  rw [Go.Sort.get_flatK _ _ _ _ (by omega), Nat.zero_add, show (j * 2 + i) / 2 = j by omega, show (j * 2 + i) % 2 = i by omega, ep] at hc
  rw [show k24.sz = 2 from rfl, add_plain, hc]
  have : i = 0 ∨ i = 1 := by omega
  rcases this with rfl | rfl
  · simpa [enc30] using hu
  · simpa [enc30] using hu
theorem fl_get (l : List S24) : ∀ j, j < l.length → (fl l)[j * 2]? = some (.int .i64 (l[j]!).f0) ∧ (fl l)[j * 2 + 1]? = some (.int .i64 (l[j]!).f1) := by
  induction l with
  | nil => intro j h; simp at h
  | cons s r ih =>
    intro j h
    have e : fl (s :: r) = .int .i64 s.f0 :: .int .i64 s.f1 :: fl r := rfl
    rw [e]
    cases j with
    | zero => exact ⟨rfl, rfl⟩
    | succ j =>
      have := ih j (by simpa using h)
      rw [show (j + 1) * 2 = j * 2 + 1 + 1 by omega]
      exact this
set_option maxHeartbeats 2000000 in
set_option maxRecDepth 100000 in
theorem clone_empty (ad : Addr) (c : Nat) (W : World) : Calls Tryz.prog 60 #[.slice (some ad) 0 c] W fun e w' => ∃ p cap, e = .returned (.slice p 0 cap) ∧ Below W.heap.size W w' := by
  have q22 : ∀ (w : World) (a : Option Addr) (n c n' c' : Nat), (binOp .eql 65 (.slice a n c) (.slice none n' c')).run Tryz.prog w = .ok (.bool a.isNone) w := fun w a n c n' c' => Lib.run_eql_slice_nil w _ _ a n c n' c' Tryz.underlying65
  go_enter Tryz.func60, Tryz.ntmps60
  go_wp2
  go_ret
  exact ⟨_, _, rfl, below_alloc (Below.refl _ _) _⟩
theorem clone_ok (A0 : Option Addr) (c0 : Nat) (l0 : List S24) (W : World) (hC : Kd.C k24 W A0 l0.length l0) (hbig : l0.length < 8796093022208) :
    Calls Tryz.prog 60 #[.slice A0 l0.length c0] W fun e w' => ∃ v, e = .returned v ∧ ((l0 = [] ∧ ∃ p cap, v = .slice p 0 cap) ∨ (0 < l0.length ∧ ∃ g cap, v = .slice (some ⟨g, 0, none⟩) l0.length cap ∧ HoldsK enc30 2 w' g 0 l0.toArray ∧ g < w'.heap.size ∧ W.heap.size ≤ g)) ∧ Below W.heap.size W w' := by
  by_cases h0 : l0 = []
  · subst h0
    cases A0 with
    | none =>
      have hcon := AnyE.slices_Clone_nil Tryz.layClone 0 c0 W
      refine hcon.mono ?_
      rintro e w' ⟨rfl, rfl⟩
      exact ⟨_, rfl, .inl ⟨rfl, none, 0, rfl⟩, Below.refl _ _⟩
    | some ad =>
      refine (clone_empty ad c0 W).mono ?_
      rintro e w' ⟨p, cap, rfl, hb⟩
      exact ⟨_, rfl, .inl ⟨rfl, p, cap, rfl⟩, hb⟩
  · have hpos : 0 < l0.length := List.length_pos_iff.mpr h0
    obtain ⟨b, off, rfl, hb, hc⟩ := row30 hC hpos
    obtain ⟨i0, hi, hzz⟩ := Option.map_eq_some_iff.1 info24
    simp only [Prod.mk.injEq] at hzz
    obtain ⟨hz0, hz1, hz2⟩ := hzz
    have hnews : ∀ j u, (fl l0)[j]? = some u → W.cell? ⟨b, off + j, none⟩ = some u := by
      intro j u hu
      have hj := (List.getElem?_eq_some_iff.mp hu).1
      rw [fl_len] at hj
      have hh := hc (j / 2) (by omega)
      have hfl : (fl l0)[j]? = some (if j % 2 = 0 then .int .i64 (l0[j / 2]!).f0 else .int .i64 (l0[j / 2]!).f1) := by
        have hg := fl_get l0 (j / 2) (by omega)
        have hm : j % 2 = 0 ∨ j % 2 = 1 := by omega
        rcases hm with hm | hm
        · have e : j / 2 * 2 = j := by omega
          rw [if_pos hm, ← hg.1, e]
        · have e : j / 2 * 2 + 1 = j := by omega
          rw [if_neg (by omega), ← hg.2, e]
      rw [hfl] at hu
      obtain rfl := Option.some.inj hu
      have hm : j % 2 = 0 ∨ j % 2 = 1 := by omega
      rcases hm with hm | hm
      · rw [if_pos hm, show off + j = off + j / 2 * 2 by omega]
        exact hh.1
      · rw [if_neg (by omega), show off + j = off + j / 2 * 2 + 1 by omega]
        exact hh.2
    have hone : ∀ u ∈ fl l0, u.oneCell' = true := by
      intro u hu
      unfold fl at hu
      obtain ⟨s, _, hs⟩ := List.mem_flatMap.mp hu
      simp at hs
      rcases hs with rfl | rfl <;> rfl
    refine (AnyE.slices_Clone Tryz.layClone i0 _ 2 16 hi hz0 hz1 hz2 rfl (by decide) Tryz.sizeOf24 b off l0.length c0 (fl l0) W (by rw [fl_len]; omega) (by simp only [maxLen]; omega) (by omega) hnews hone).mono ?_
    rintro e w' ⟨v', rfl, ho, hne, hbel⟩
    refine ⟨v', rfl, .inr ⟨hpos, ?_⟩, hbel⟩
    rcases ho.2 with ⟨_, h0'⟩ | ⟨g, cap, cur, hv, hg, hh, hcap, hmax, hcs, htake⟩
    · omega
    · refine ⟨g, cap, hv, ?_, (Array.getElem?_eq_some_iff.mp hh).1, hg⟩
      refine holds30 (fun j hj => ?_) (fun j => by simp [World.frozen?, hh])
      have hgt := fl_get l0 j hj
      have c1 := ho.cells (g := g) (by rw [hv]; rfl) _ _ hgt.1
      have c2 := ho.cells (g := g) (by rw [hv]; rfl) _ _ hgt.2
      rw [add_plain] at c1 c2
      exact ⟨c1, c2⟩
set_option maxHeartbeats 2000000 in
theorem sort_none (p : Option Addr) (cap : Nat) (fv : Value) (W : World) : Calls Tryz.prog 61 #[.slice p 0 cap, fv] W fun e w' => e = .returned (.tuple #[]) ∧ w' = W := by
  have hins : ∀ W, Calls Tryz.prog 115 #[.slice p 0 cap, .int .i64 0, .int .i64 0, fv] W fun e w' => e = .returned (.tuple #[]) ∧ w' = W := by
    intro W
    go_enter Tryz.func115, Tryz.ntmps115
    go_wp2
    refine wp_loop_rounds 1 ?_
    rw [rounds_succ]
    go_wp2
    go_end0
    exact ⟨rfl, rfl⟩
  have HI := Lib.hid hins
  clear hins
  have hpdq : ∀ (lim : Int) W, Calls Tryz.prog 95 #[.slice p 0 cap, .int .i64 0, .int .i64 0, .int .i64 lim, fv] W fun e w' => e = .returned (.tuple #[]) ∧ w' = W := by
    intro lim W
    go_enter Tryz.func95, Tryz.ntmps95
    go_wp2
    refine wp_loop_rounds 1 ?_
    rw [rounds_succ]
    go_wp2_with (go_at_call 115; refine (HI.out _).mono ?_; rintro e w' ⟨rfl, rfl⟩)
    (try simp only [Exit.inBlock, Exit.then])
    refine bodyPost_ret (results_none rfl _ _ _) rfl ?_
    exact ⟨rfl, rfl⟩
  have HP := Lib.hid hpdq
  clear hpdq
  have hlen := Tryz.bits_Len 0 W (by omega) (by omega)
  have HL := Lib.hid hlen
  clear hlen
  go_enter Tryz.func61, Tryz.ntmps61
  go_wp2_with (first
    | (go_at_call 54; refine HL.out.mono ?_; rintro e w' ⟨rfl, rfl⟩)
    | (go_at_call 95; refine (HP.out _ _).mono ?_; rintro e w' ⟨rfl, rfl⟩))
  go_end0
  exact ⟨rfl, rfl⟩
/-- The comparison of stretches by their first day. -/
def cf30 (x y : S24) : Int := Lib.compareInt x.f0 y.f0
theorem lt30 (x y : S24) : ltOf cf30 x y = decide (x.f0 < y.f0) := by
  unfold ltOf cf30 Lib.compareInt
  by_cases h1 : x.f0 < y.f0
  · simp [h1]
  · by_cases h2 : y.f0 < x.f0 <;> simp [h1, h2]
theorem swo30 : Go.Sort.SWO (ltOf cf30) where
  irrefl x := by rw [lt30]; simp
  trans x y z h1 h2 := by rw [lt30] at *; simp at *; omega
  ntrans x y z h1 h2 := by rw [lt30] at *; simp at *; omega
/-- Stretches sorted by their first day, as the library sorts them. -/
def sorted30 (l : List S24) : List S24 := (Go.Sort.pdq (ltOf cf30) l.toArray 0 l.toArray.size (Lib.bitLen l.toArray.size) true true).toList
open Go.Sort (Holds putRow flatK HoldsK putRowK)
theorem below_putRow' {α : Type} [Inhabited α] (enc : α → Value) {w0 w : World} {B : Nat} (h : Below B w0 w) (blk off : Nat) (d : Array α) (hb : B ≤ blk) (m : Nat) : Below B w0 (putRow enc (Go.Sort.ahead w m) blk off d) := by
  refine ⟨h.os, h.tape, h.output, by simp [Go.Sort.ahead, h.size], fun k hk => ?_⟩
  rw [← h.block k hk]
  simp only [putRow, Go.Sort.mapBlock, Array.getElem?_modify]
  rw [if_neg (by omega)]
  rfl
theorem sorted30_len (l : List S24) : (sorted30 l).length = l.length := by
  have h := Go.Sort.pdq_sorts (ltOf cf30) swo30 l.toArray 0 l.toArray.size (Lib.bitLen l.toArray.size) true true (Nat.zero_le _) (Nat.le_refl _) (Or.inl rfl)
  have := h.1.1
  unfold sorted30
  simpa using this
theorem sort_ok (W w1 : World) (g B cap : Nat) (l : List S24) (hpos : 0 < l.length) (hbig : l.length < 8796093022208) (hB0 : Below W.heap.size W w1) (hg0 : W.heap.size ≤ g) (hg : g < w1.heap.size) (hH : HoldsK enc30 2 w1 g 0 l.toArray) (hne : B ≠ g) (hc : w1.cell? ⟨B, 0, none⟩ = some (.func (.func 63) #[] #[])) :
    Calls Tryz.prog 61 #[.slice (some ⟨g, 0, none⟩) l.length cap, .func (.func 96) #[] #[.pointer (some ⟨B, 0, none⟩)]] w1 fun e w' => e = .returned (.tuple #[]) ∧ Kd.C k24 w' (some ⟨g, 0, none⟩) (sorted30 l).length (sorted30 l) ∧ Below W.heap.size W w' := by
  have eg : ∀ args w, (callFunc 96 args).run Tryz.prog w = .ok (.enter 96 args) w := enters_of Tryz.func96 (by kernel_rfl) rfl
  have hB1 := World.block_lt_of_cell? w1 _ hc
  have hcmp : CmpLays Tryz.prog 96 #[.pointer (some ⟨B, 0, none⟩)] enc30 2 cf30 g 0 l.toArray.size w1 := by
    intro m os dk hdk x y
    have hcc : (sortWorldK enc30 2 w1 g 0 m dk os).cell? ⟨B, 0, none⟩ = some (.func (.func 63) #[] #[]) := by
      unfold sortWorldK
      have hs : (putRowK enc30 2 (Go.Sort.ahead w1 m) g 0 dk).heap.size = w1.heap.size := by
        unfold putRowK
        rw [Go.Sort.size_putRow]
        rfl
      rw [Go.Sort.cell?_grow _ _ _ (by rw [hs]; exact hB1)]
      unfold putRowK
      rw [Go.Sort.cell?_putRow_other _ _ _ _ _ _ (.inl hne)]
      exact hc
    exact clo46 x y B _ hcc
  have hcon := AnyQ.slices_SortFunc_eq Tryz.laySort 2 Tryz.isAgg24 Tryz.sizeOf24 enc30 (fun _ => rfl) (fun x v hv => by simp [enc30] at hv; rcases hv with rfl | rfl <;> rfl) cf30 swo30 96 #[.pointer (some ⟨B, 0, none⟩)] g 0 cap l.toArray w1 eg hcmp hH hg (by simp; omega)
  refine hcon.mono ?_
  rintro e w' ⟨rfl, n, os, hw⟩
  have hlen : (sorted30 l).length = l.length := sorted30_len l
  have hsz : (Go.Sort.pdq (ltOf cf30) l.toArray 0 l.toArray.size (Lib.bitLen l.toArray.size) true true).size = l.toArray.size := by
    have : (Go.Sort.pdq (ltOf cf30) l.toArray 0 l.toArray.size (Lib.bitLen l.toArray.size) true true).size = (sorted30 l).length := by unfold sorted30; simp
    rw [this, hlen]
    simp
  have hH2 : HoldsK enc30 2 w' g 0 (Go.Sort.pdq (ltOf cf30) l.toArray 0 l.toArray.size (Lib.bitLen l.toArray.size) true true) := by
    rw [hw]
    unfold sortWorldK
    refine Go.Sort.holdsK_grow enc30 2 _ _ _ _ _ ?_ (Go.Sort.holdsK_putRowK enc30 2 _ _ _ _ _ (Go.Sort.holdsK_ahead enc30 2 _ _ _ _ _ hH) hsz)
    unfold putRowK
    rw [Go.Sort.size_putRow]
    exact hg
  refine ⟨rfl, ?_, ?_⟩
  · have := row_of_holds hH2 (by rw [hsz]; simp; omega)
    exact this
  · rw [hw]
    unfold sortWorldK putRowK
    have hw1 := hB0.size
    exact below_grow' (below_putRow' id hB0 g 0 _ hg0 n) (by rw [Go.Sort.size_putRow]; exact hw1) os
/-- From and Until are those of a stretch. -/
def strB (s : S24) : Bool := decide (0 ≤ s.f0) && (decide (s.f0 < s.f1) && decide (s.f1 ≤ 36525))
theorem stretch_f (x y : Int) : span_stretch.f x y = some (strB ⟨x, y⟩) := by
  unfold span_stretch.f strB
  by_cases h1 : 0 ≤ x
  · by_cases h2 : x < y
    · rw [if_pos h1, if_pos h2]; simp [h1, h2]
    · rw [if_pos h1, if_neg h2]; simp [h1, h2]
  · rw [if_neg h1]; simp [h1]
def normF (l : List S24) : List S24 × Int := if l.all strB then limF ((sorted30 l).foldl addF []) else ([], 1)
def span_Normal.f (l0 : List S24) : Option (List S24 × Int) := if l0.length < 8796093022208 then some (normF l0) else none
theorem rd30_nat (l : List S24) (j : Nat) (h : j < l.length) : rd_T24 l (j : Int) = l[j] := by
  unfold rd_T24
  rw [Int.toNat_natCast, List.getD_eq_getElem?_getD, List.getElem?_eq_getElem h]
  rfl
theorem drop_one (l : List S24) (j : Nat) (h : j < l.length) : l.drop j = rd_T24 l (j : Int) :: l.drop (j + 1) := by
  rw [rd30_nat l j h]
  exact List.drop_eq_getElem_cons h
theorem sort_any (w w2 : World) (v : Value) (l : List S24) (hbig : l.length < 8796093022208) (hB : Below w.heap.size w w2)
    (hcl : (l = [] ∧ ∃ p cap, v = .slice p 0 cap) ∨ (0 < l.length ∧ ∃ g cap, v = .slice (some ⟨g, 0, none⟩) l.length cap ∧ Go.Sort.HoldsK enc30 2 w2 g 0 l.toArray ∧ g < w2.heap.size ∧ w.heap.size ≤ g)) :
    Calls Tryz.prog 61 #[v, .func (.func 96) #[] #[.pointer (some ⟨w2.heap.size, 0, none⟩)]] (w2.alloc (.cells #[.func (.func 63) #[] #[]] 96)) fun e w' => e = .returned (.tuple #[]) ∧ (∃ A cp, v = .slice A (sorted30 l).length cp ∧ Kd.C k24 w' A (sorted30 l).length (sorted30 l)) ∧ Below w.heap.size w w' := by
  have hs := sorted30_len l
  rcases hcl with ⟨h0, p, cap, rfl⟩ | ⟨hpos, g, cap, rfl, hH, hg, hgb⟩
  · refine (sort_none p cap _ _).mono ?_
    rintro e w' ⟨rfl, rfl⟩
    have e0 : sorted30 l = [] := List.length_eq_zero_iff.mp (by rw [hs, h0]; rfl)
    rw [e0]
    exact ⟨rfl, ⟨p, cap, rfl, ⟨rfl, by simp, fun h => absurd h (Nat.lt_irrefl 0)⟩⟩, below_alloc hB _⟩
  · refine (sort_ok w _ g w2.heap.size cap l hpos hbig (below_alloc hB _) hgb (by rw [World.size_alloc]; omega) ?_ (by omega) ?_).mono ?_
    · rw [alloc_eq_grow]
      exact Go.Sort.holdsK_grow enc30 2 _ _ _ _ _ hg hH
    · exact (blk_cell (heap_alloc_new w2 _) 0).trans rfl
    · rintro e w' ⟨rfl, hC, hb⟩
      exact ⟨rfl, ⟨_, cap, by rw [hs], hC⟩, hb⟩
theorem foldl_take (l : List S24) (j : Nat) (out : List S24) (h : j < l.length) : (l.drop j).foldl addF out = (l.drop (j + 1)).foldl addF (addF out (rd_T24 l (j : Int))) := by
  rw [drop_one l j h]
  rfl
set_option maxHeartbeats 8000000 in
set_option maxRecDepth 100000 in
theorem span_Normal.calls (A0 : Option Addr) (c0 : Nat) (l0 : List S24) (r1 : List S24) (r2 : Int) (w : World) (hr0 : Kd.C k24 w A0 l0.length l0) (hc0 : l0.length ≤ c0) (h : span_Normal.f l0 = some (r1, r2)) :
    Calls Tryz.prog 38 #[.slice A0 l0.length c0] w fun e w' => ∃ v0_ : Value, e = .returned (.tuple #[v0_, .int .i64 r2]) ∧ Kd.R k24 24 w' w.heap.size (fun _ => True) v0_ r1 ∧ Below w.heap.size w w' := by
  have hu30 := Tryz.underlying24
  unfold span_Normal.f at h
  have hbig : l0.length < 8796093022208 := by
    rcases Nat.lt_or_ge l0.length 8796093022208 with h1 | h1
    · exact h1
    · rw [if_neg (by omega)] at h
      simp at h
  rw [if_pos hbig] at h
  have hn : normF l0 = (r1, r2) := Option.some.inj h
  have HN := Lib.hid hn
  have HR0 := Lib.hid hr0
  have HC0 := Lib.hid hc0
  have HBIG := Lib.hid hbig
  have HB := Lib.hid (Below.refl w.heap.size w)
  clear h hn hr0 hc0 hbig
  go_enter Tryz.func38, Tryz.ntmps38
  go_wp2
  go_loopg [12] (l0.length) (fun kq v12 w' => ∃ i : Nat, v12 = .int .i64 i ∧ Aside0 (i + kq = l0.length ∧ l0.all strB = (l0.drop i).all strB ∧ Below w.heap.size w w'))
  case atStart => exact ⟨0, rfl, ⟨by omega, rfl, HB.out⟩⟩
  case round =>
    clear HB
    obtain ⟨i, rfl, hi⟩ := hrel
    obtain ⟨hk, ha, hb⟩ := hi.out
    clear hi
    have HB := Lib.hid hb
    have HA := Lib.hid ha
    clear hb ha
    by_cases hlt : i < l0.length
    · obtain ⟨ad, e, x0, x1⟩ := at_T24 HR0.out (i : Int) (by omega) (by omega)
      subst e
      rw [Int.toNat_natCast] at x0 x1
      have y0 := (HB.out.cell (World.block_lt_of_cell? w _ x0)).trans x0
      have y1 := (HB.out.cell (World.block_lt_of_cell? w _ x1)).trans x1
      have hd := HA.out
      rw [drop_one l0 i hlt, List.all_cons] at hd
      generalize rd_T24 l0 (i : Int) = s at x0 x1 y0 y1 hd
      have HD := Lib.hid hd
      have hbig := HBIG.out
      have hw1 : IntKind.i64.wrap ((i : Int) + 1) = ((i + 1 : Nat) : Int) := by rw [IntKind.wrap_i64]; omega
      have hm : l0.length - (i + 1) < gk := by clear hw1; omega
      have hsum : (i + 1) + (l0.length - (i + 1)) = l0.length := by clear hw1; omega
      clear hd x0 x1 hbig
      have q1 : decide ((i : Int) < (l0.length : Int)) = true := decide_eq_true (by clear hw1; omega)
      have q0 : decide ((0 : Int) ≤ (i : Int)) = true := decide_eq_true (by clear hw1; omega)
      have q2 : ((i : Int) < (l0.length : Int)) = True := eq_true (by clear hw1; omega)
      have q3 : ((0 : Int) ≤ (i : Int)) = True := eq_true (by clear hw1; omega)
      cases hst : strB s with
      | true =>
        go_wp2_with (go_at_call 59; with_reducible refine (span_stretch.calls s.f0 s.f1 true _ (by rw [stretch_f]; exact congrArg some hst)).mono ?_; rintro e w2 ⟨rfl, hb⟩; have hb2 : Below w.heap.size w w2 := below_step (below_alloc HB.out _) hb; have HB2 := Lib.hid hb2; clear hb hb2)
        go_roundg (l0.length - (i + 1))
        case measure => exact hm
        case rel => exact ⟨i + 1, by simp, ⟨hsum, by rw [HD.out, hst, Bool.true_and], HB2.out⟩⟩
      | false =>
        go_wp2_with (go_at_call 59; with_reducible refine (span_stretch.calls s.f0 s.f1 false _ (by rw [stretch_f]; exact congrArg some hst)).mono ?_; rintro e w2 ⟨rfl, hb⟩; have hb2 : Below w.heap.size w w2 := below_step (below_alloc HB.out _) hb; have HB2 := Lib.hid hb2; clear hb hb2)
        go_ret2
        have e1 := HN.out
        unfold normF at e1
        rw [if_neg (by rw [HD.out, hst]; simp)] at e1
        simp only [Prod.mk.injEq] at e1
        obtain ⟨rfl, rfl⟩ := e1
        exact ⟨_, rfl, Kd.R_nil _ _ _ _ _, HB2.out⟩
    · have q1 : decide ((i : Int) < (l0.length : Int)) = false := decide_eq_false (by omega)
      have q2 : ((i : Int) < (l0.length : Int)) = False := eq_false (by omega)
      have hall : l0.all strB = true := by
        rw [HA.out, List.drop_of_length_le (by omega)]
        rfl
      have e1 := HN.out
      unfold normF at e1
      rw [if_pos hall] at e1
      have HE := Lib.hid e1
      clear e1 HA
      go_wp2_with (go_at_call 60; with_reducible refine (clone_ok A0 c0 l0 _ ?s1 HBIG.out).mono ?_; (case s1 => first | exact Kd.C_below HR0.out HB.out | exact Kd.C_drew (Kd.C_below HR0.out HB.out)); rintro e w2 ⟨v2, rfl, hcl, hb2⟩; have HCL := Lib.hid (show (l0 = [] ∧ ∃ p cap, v2 = .slice p 0 cap) ∨ (0 < l0.length ∧ ∃ g cap, v2 = .slice (some ⟨g, 0, none⟩) l0.length cap ∧ Go.Sort.HoldsK enc30 2 w2 g 0 l0.toArray ∧ g < w2.heap.size ∧ w.heap.size ≤ g) from by (rcases hcl with h | ⟨hp, g, cap, h1, h2, h3, h4⟩; (· exact .inl h); (· exact .inr ⟨hp, g, cap, h1, h2, h3, Nat.le_trans HB.out.size h4⟩))); have hb3 : Below w.heap.size w w2 := below_step HB.out hb2; have HB3 := Lib.hid hb3; clear hcl hb2 hb3)
      refine (by31 w2).mono ?_
      rintro e w3 ⟨rfl, rfl⟩
      go_wp2_with fail
      refine (sort_any w w2 v2 l0 HBIG.out HB3.out HCL.out).mono ?_
      rintro e w4 ⟨rfl, ⟨As, cs, hv, hC⟩, hb4⟩
      have hlen := sorted30_len l0
      have hbl := HBIG.out
      subst hv
      generalize hsr : sorted30 l0 = srt at hC hlen HE HCL ⊢
      have HCS := Lib.hid hC
      have HB4 := Lib.hid hb4
      obtain ⟨res, hres⟩ : ∃ r_, r_ = srt.foldl addF [] := ⟨_, rfl⟩
      have HRES := Lib.hid hres
      have HSL := Lib.hid (show srt.length < 8796093022208 by omega)
      have HE2 := Lib.hid (show limF res = (r1, r2) by rw [hres]; exact HE.out)
      clear hC hb4 hres hlen hbl HE HCL hsr HB3
      go_wp2
      go_loopg [7, 27] (srt.length) (fun kq v7 v27 w' => ∃ j : Nat, v27 = .int .i64 j ∧ ∃ out, Aside0 (j + kq = srt.length ∧ (srt.drop j).foldl addF out = res ∧ out.length ≤ j ∧ Kd.R k24 24 w' w4.heap.size (fun _ => True) v7 out ∧ Below w4.heap.size w4 w'))
      case atStart => exact ⟨0, rfl, [], ⟨by omega, HRES.out.symm, Nat.le_refl _, Kd.R_nil _ _ _ _ _, Below.refl _ _⟩⟩
      case round =>
        obtain ⟨j, rfl, out, hj⟩ := hrel
        obtain ⟨hk2, hfo, hol, hR, hb5⟩ := hj.out
        clear hj HRES
        have HFO := Lib.hid hfo
        have HR5 := Lib.hid hR
        have HB5 := Lib.hid hb5
        clear hfo hR hb5
        by_cases hlt : j < srt.length
        · obtain ⟨ad, e, x0, x1⟩ := at_T24 HCS.out (j : Int) (by omega) (by omega)
          subst e
          rw [Int.toNat_natCast] at x0 x1
          have y0 := (HB5.out.cell (World.block_lt_of_cell? w4 _ x0)).trans x0
          have y1 := (HB5.out.cell (World.block_lt_of_cell? w4 _ x1)).trans x1
          have hd := HFO.out
          rw [foldl_take srt j out hlt] at hd
          generalize rd_T24 srt (j : Int) = s at x0 x1 y0 y1 hd
          have HD := Lib.hid hd
          have hsl := HSL.out
          have hw1 : IntKind.i64.wrap ((j : Int) + 1) = ((j + 1 : Nat) : Int) := by rw [IntKind.wrap_i64]; omega
          have hm : srt.length - (j + 1) < gk := by clear hw1; omega
          have hsum : (j + 1) + (srt.length - (j + 1)) = srt.length := by clear hw1; omega
          have HOL := Lib.hid (show out.length < 8796093022208 by clear hw1; omega)
          have HO3 := Lib.hid (show (addF out s).length ≤ j + 1 from Nat.le_trans (addF_len _ _) (Nat.succ_le_succ hol))
          clear hd x0 x1 hsl hol
          have q1 : decide ((j : Int) < (srt.length : Int)) = true := decide_eq_true (by clear hw1; omega)
          have q0 : decide ((0 : Int) ≤ (j : Int)) = true := decide_eq_true (by clear hw1; omega)
          have q2 : ((j : Int) < (srt.length : Int)) = True := eq_true (by clear hw1; omega)
          have q3 : ((0 : Int) ≤ (j : Int)) = True := eq_true (by clear hw1; omega)
          go_wp2_with (go_at_call 64; with_reducible refine (span_add.calls (fun _ => True) u7 out s.f0 s.f1 (addF out s) w4 _ ?s1 ?s2 (add_f out s.f0 s.f1 HOL.out)).mono ?_; (case s1 => exact below_alloc HB5.out _); (case s2 => exact Kd.R_alloc HR5.out _); rintro e w6 ⟨v6, rfl, ho, hb, hk⟩; have HO6 := Lib.hid ho; have HB6 := Lib.hid hb; clear ho hb hk)
          go_roundg (srt.length - (j + 1))
          case measure => exact hm
          case rel => exact ⟨j + 1, by simp, addF out s, ⟨hsum, HD.out, HO3.out, Kd.R_mono HO6.out (fun _ _ => trivial), HB6.out⟩⟩
        · have q1 : decide ((j : Int) < (srt.length : Int)) = false := decide_eq_false (by omega)
          have q2 : ((j : Int) < (srt.length : Int)) = False := eq_false (by omega)
          have hout : out = res := by
            have := HFO.out
            rw [List.drop_of_length_le (by omega)] at this
            exact this
          subst hout
          have HLF := Lib.hid ((limited_f out).trans (congrArg some HE2.out))
          go_wp2_with (go_at_call 65; with_reducible refine (span_limited.calls (fun _ => True) u7 out r1 r2 w4 _ ?s1 ?s2 HLF.out).mono ?_; (case s1 => first | exact HB5.out | exact HB5.out.drew); (case s2 => first | exact HR5.out | exact Kd.R_drew HR5.out); rintro e w7 ⟨v7, rfl, ho, hb, hk⟩; have HO7 := Lib.hid ho; have HB7 := Lib.hid hb; clear ho hb hk)
          go_ret2
          exact ⟨_, rfl, Kd.R_lower (Kd.R_mono HO7.out (fun _ _ => trivial)) HB4.out.size, HB4.out.trans (HB7.out.mono HB4.out.size)⟩
end

/-! ### span_Meet: function 39 -/
-- by hand: cohousing/span.Meet
section
open Go.Sort (grow alloc_eq_grow grow_grow)
theorem keep38 (x y : Bool) (W : World) : Calls Tryz.prog 67 #[.bool x, .bool y] W fun e w' => e = .returned (.bool (x && y)) ∧ w' = W := by
  cases x <;> cases y <;> (go_enter Tryz.func67, Tryz.ntmps67; go_wp2; go_ret; exact ⟨rfl, rfl⟩)
/-- The days of both. -/
def span_Meet.f (k : Nat) (l0 l1 : List S24) : Option (List S24 × Int) := sweepO (fun x y => x && y) k l0 l1
theorem span_Meet.mono : ∀ l0 l1 k, LeO (span_Meet.f k l0 l1) (span_Meet.f (k + 1) l0 l1) := fun l0 l1 k => sweepO_mono _ k l0 l1
set_option maxHeartbeats 4000000 in
theorem span_Meet.calls (k : Nat) (A0 : Option Addr) (c0 : Nat) (l0 : List S24) (A1 : Option Addr) (c1 : Nat) (l1 : List S24) (r1 : List S24) (r2 : Int) (w : World) (hr0 : Kd.C k24 w A0 l0.length l0) (hc0 : l0.length ≤ c0) (hr1 : Kd.C k24 w A1 l1.length l1) (hc1 : l1.length ≤ c1) (h : span_Meet.f k l0 l1 = some (r1, r2)) :
    Calls Tryz.prog 39 #[.slice A0 l0.length c0, .slice A1 l1.length c1] w fun e w' => ∃ v0_ : Value, e = .returned (.tuple #[v0_, .int .i64 r2]) ∧ Kd.R k24 24 w' w.heap.size (fun _ => True) v0_ r1 ∧ Below w.heap.size w w' := by
  have HS := Lib.hid (sweep_all _ 67 keep38 (enters_of Tryz.func67 (by kernel_rfl) rfl) k A0 A1 c0 c1 l0 l1 r1 r2 w hr0 hc0 hr1 hc1 h)
  clear hr0 hc0 hr1 hc1 h
  go_enter Tryz.func39, Tryz.ntmps39
  go_wp2_with (go_at_call 66; refine HS.out.mono ?_; rintro e w1 ⟨v, rfl, ho, hb⟩; have HO := Lib.hid ho; have HB := Lib.hid hb; clear ho hb)
  go_ret2
  exact ⟨_, rfl, HO.out, HB.out⟩

end

/-! ### span_Count: function 40 -/
def span_Count.l0 : Nat → Int → List (S24) → Int → Int → Option (Int × Int)
  | 0, _, _, _, _ => none
  | k + 1, x4, x10, x11, x12 => if x12 < x11 then (if 0 ≤ x12 then (if x12 < (x10.length : Int) then (span_Count.l0 k (wrap64 (x4 + (wrap64 (((rd_T24 x10 x12).f1) - ((rd_T24 x10 x12).f0))))) x10 x11 (wrap64 (x12 + 1))) else (none)) else (none)) else (some (x4, 0))
def span_Count.f (k : Nat) (l0 : List (S24)) : Option (Int × Int) := (span_Valid.f k l0).bind fun t131 => (if t131 = true then (span_Count.l0 k 0 l0 (l0.length : Int) 0) else (some (0, 1)))
theorem span_Count.mono_l : ∀ k, (∀ y0 y1 y2 y3, LeO (span_Count.l0 k y0 y1 y2 y3) (span_Count.l0 (k + 1) y0 y1 y2 y3))
  | 0 => fun _ _ _ _ r h => by simp [span_Count.l0] at h
  | k + 1 => by
    have ih0 := span_Count.mono_l k
    · intro y0 y1 y2 y3
      unfold span_Count.l0
      repeat' first
      | (with_reducible exact ih0 _ _ _ _)
      | (with_reducible exact span_Valid.mono _ _)
      | (with_reducible exact LeO.refl _)
      | (with_reducible exact LeO.none _)
      | (with_reducible refine LeO.ite ?_ ?_)
      | (with_reducible refine LeO.bind ?_ (fun _ => ?_))
      | exact ih0 _ _ _ _
      | exact span_Valid.mono _ _
      | exact LeO.none _
      | refine LeO.ite ?_ ?_
      | refine LeO.bind ?_ (fun _ => ?_)
theorem span_Count.mono : ∀ a0 k, LeO (span_Count.f k a0) (span_Count.f (k + 1) a0) := by
  intro a0 k
  have ih0 := span_Count.mono_l k
  unfold span_Count.f
  repeat' first
      | (with_reducible exact ih0 _ _ _ _)
      | (with_reducible exact span_Valid.mono _ _)
      | (with_reducible exact LeO.refl _)
      | (with_reducible exact LeO.none _)
      | (with_reducible refine LeO.ite ?_ ?_)
      | (with_reducible refine LeO.bind ?_ (fun _ => ?_))
      | exact ih0 _ _ _ _
      | exact span_Valid.mono _ _
      | exact LeO.none _
      | refine LeO.ite ?_ ?_
      | refine LeO.bind ?_ (fun _ => ?_)
set_option maxHeartbeats 8000000 in
set_option maxRecDepth 100000 in
theorem span_Count.calls (k : Nat) (A0 : Option Addr) (c0 : Nat) (l0 : List (S24)) (r1 : Int) (r2 : Int) (w : World) (hr0 : Kd.C k24 w A0 l0.length l0) (hc0 : l0.length ≤ c0) (h : span_Count.f k l0 = some (r1, r2)) :
    Calls Tryz.prog 40 #[.slice A0 l0.length c0] w fun e w' => e = .returned (.tuple #[.int .i64 r1, .int .i64 r2]) ∧ Below w.heap.size w w' := by
  have hu24 := Tryz.underlying24
  have HR0 := Aside0.mk hr0
  have HC0 := Aside0.mk hc0
  clear hr0 hc0
  have HB := Aside0.mk (Below.refl w.heap.size w)
  have H : ((span_Valid.f k l0).bind fun t131 => (if t131 = true then (span_Count.l0 k 0 l0 (l0.length : Int) 0) else (some (0, 1)))) = some (r1, r2) := h
  clear h
  replace H := Option.bind_eq_some_iff.mp H
  obtain ⟨t131, A20, H⟩ := H
  replace H : (if t131 = true then (span_Count.l0 k 0 l0 (l0.length : Int) 0) else (some (0, 1))) = some (r1, r2) := H
  have A2 := Aside0.mk A20
  clear A20
  by_cases c3 : t131 = true
  · subst c3
    have H1 : (span_Count.l0 k 0 l0 (l0.length : Int) 0) = some (r1, r2) := by rw [if_pos rfl] at H; exact H
    clear H
    have H := H1
    clear H1
    have H' := Aside0.mk H
    clear H
    go_enter Tryz.func40, Tryz.ntmps40
    go_wp2_with (first | ((with_reducible refine gate_callee (f := 37) rfl ?_); refine goesL_ (some 8) rfl rfl Tryz.func37 (by kernel_rfl) rfl #[.slice A0 l0.length c0] rfl (by (try simp only [List.map_toArray, List.map_cons, List.map_nil]); first | done | rfl | (simp only [List.length_drop, List.length_take]; rfl)) ?_; (with_reducible refine (span_Valid.calls k _ _ l0 true _ ?side1 ?side2 A2.out).mono ?_); (case side1 => repeat (first | exact HR0.out | (with_reducible refine Kd.C_alloc ?_ _) | (with_reducible refine Kd.C_drewN ?_ _) | (with_reducible refine Kd.C_drew ?_))); (case side2 => exact HC0.out); rintro e w4 ⟨rfl, hb⟩; refine ⟨_, rfl, ?_⟩; have n0_ := Aside0.mk (below_step (by repeat (first | (with_reducible first | exact HB.out | apply below_alloc | apply pw_below_drewN | apply below_drew1) | exact HB.out)) hb); clear HB; have HB := n0_; clear n0_; (try clear hb); (try clear hb2); (try clear hk); (try clear hi)))
    go_loopg [4, 12] k (fun kq v4 v12 w' => ∃ (x4_1 : Int) (x12_1 : Int), v4 = .int .i64 x4_1 ∧ v12 = .int .i64 x12_1 ∧ Aside0 (span_Count.l0 kq x4_1 l0 (l0.length : Int) x12_1 = some (r1, r2)) ∧ Aside0 (kq ≤ k) ∧ Aside0 (Below w.heap.size w w'))
    case atStart => exact ⟨(0), (0), (by first | rfl | (simp; done) | (simp [*]; done)), (by first | rfl | (simp; done) | (simp [*]; done)), H', ⟨Nat.le_refl _⟩, ⟨by repeat (first | (with_reducible first | exact HB.out | apply below_alloc | apply pw_below_drewN | apply below_drew1) | exact HB.out)⟩⟩
    case round =>
      clear H'
      try clear p2
      try clear c3
      try clear c4
      obtain ⟨x4_1, x12_1, rfl, rfl, HA, HK1, HB⟩ := hrel
      cases gk with
      | zero => exact absurd HA.out (by simp [span_Count.l0])
      | succ k1 =>
        have H := HA.out
        clear HA
        simp only [span_Count.l0] at H
        by_cases c5 : x12_1 < (l0.length : Int)
        · rw [if_pos c5] at H
          have c5b0 : decide (x12_1 < (l0.length : Int)) = true := decide_eq_true c5
          clear c5
          by_cases c6 : 0 ≤ x12_1
          · rw [if_pos c6] at H
            have c6b0 : decide (0 ≤ x12_1) = true := decide_eq_true c6
            clear c6
            by_cases c7 : x12_1 < (l0.length : Int)
            · rw [if_pos c7] at H
              have c7b0 : decide (x12_1 < (l0.length : Int)) = true := decide_eq_true c7
              clear c7
              have H' := Aside0.mk H
              clear H
              have p132 : 0 ≤ (x12_1 : Int) := of_decide_eq_true (by first | (with_reducible assumption) | assumption)
              have q132 : x12_1 < (l0.length : Int) := of_decide_eq_true (by first | (with_reducible assumption) | assumption)
              obtain ⟨ad132, e132, hx132_0, hx132_1⟩ := at_T24 HR0.out x12_1 p132 q132
              cases e132
              replace hx132_0 := (HB.out.cell (World.block_lt_of_cell? w _ hx132_0)).trans hx132_0
              replace hx132_1 := (HB.out.cell (World.block_lt_of_cell? w _ hx132_1)).trans hx132_1
              replace p132 := eq_true p132
              replace q132 := eq_true q132
              go_wp2_with (first | ((with_reducible refine gate_dst (N := 6) rfl ?_); refine box_event ?hg (N := 6) ?hd (cs := #[.int .i64 0, .int .i64 0]) (t := 24) ?hr ?_; (case hd => rfl); (case hg => rfl); (case hr => first | (go_simp; done) | (go_simp; rfl)); intro gb133 hg w8 hbox hb; have n0_ := Aside0.mk (below_step (by repeat (first | (with_reducible first | exact HB.out | apply below_alloc | apply pw_below_drewN | apply below_drew1) | exact HB.out)) hb); have n1_ := Aside0.mk (hbox); have n2_ := Aside0.mk ((by rw [hg]; exact (below_size (by repeat (first | (with_reducible first | exact HB.out | apply below_alloc | apply pw_below_drewN | apply below_drew1) | exact HB.out))) : w.heap.size ≤ gb133)); have n3_ := Aside0.mk ((by rw [hg]; exact (below_size (by repeat (first | (with_reducible first | exact HB.out | apply below_alloc | apply pw_below_drewN | apply below_drew1) | exact HB.out))) : w.heap.size ≤ gb133)); clear HB; have HB := n0_; have BK133 := n1_; have GW133 := n2_; have GE133 := n3_; clear n0_ n1_ n2_ n3_; clear hb hbox hg; have hcz9_0 : w8.cell? ⟨gb133, 0, none⟩ = some (.int .i64 0) := (blk_cell BK133.out 0).trans rfl; have hcz9_1 : w8.cell? ⟨gb133, 1, none⟩ = some (.int .i64 0) := (blk_cell BK133.out 1).trans rfl; have hfz9_0 := blk_frozen BK133.out 0; have hfz9_1 := blk_frozen BK133.out 1))
              go_roundg k1
              case measure => have := HK1.out; omega
              case rel => exact ⟨(wrap64 (x4_1 + (wrap64 (((rd_T24 l0 x12_1).f1) - ((rd_T24 l0 x12_1).f0))))), (wrap64 (x12_1 + 1)), (by first | rfl | (simp; done) | (simp [*]; done)), (by first | rfl | (simp; done) | (simp [*]; done)), H', ⟨by have := HK1.out; omega⟩, ⟨by repeat (first | (with_reducible first | exact HB.out | apply below_alloc | apply pw_below_drewN | apply below_drew1 | refine below_set ?_ GE133.out) | exact HB.out)⟩⟩
            · rw [if_neg c7] at H
              exact absurd H (by simp)
          · rw [if_neg c6] at H
            exact absurd H (by simp)
        · rw [if_neg c5] at H
          have c5b0 : decide (x12_1 < (l0.length : Int)) = false := decide_eq_false c5
          clear c5
          simp only [Option.some.injEq, Prod.mk.injEq] at H
          obtain ⟨rfl, rfl⟩ := H
          go_wp2
          go_ret2
          exact ⟨by first | rfl | (simp [errW_none, errW_some] <;> rfl) | (simp [*, errW_none, errW_some] <;> rfl), by repeat (first | (with_reducible first | exact HB.out | apply below_alloc | apply pw_below_drewN | apply below_drew1) | exact HB.out)⟩
  · replace c3 := Bool.eq_false_iff.mpr c3
    subst c3
    have H1 : (some (0, 1)) = some (r1, r2) := by rw [if_neg (show ¬ (false = true) by decide)] at H; exact H
    clear H
    have H := H1
    clear H1
    simp only [Option.some.injEq, Prod.mk.injEq] at H
    obtain ⟨rfl, rfl⟩ := H
    go_enter Tryz.func40, Tryz.ntmps40
    go_wp2_with (first | ((with_reducible refine gate_callee (f := 37) rfl ?_); refine goesL_ (some 8) rfl rfl Tryz.func37 (by kernel_rfl) rfl #[.slice A0 l0.length c0] rfl (by (try simp only [List.map_toArray, List.map_cons, List.map_nil]); first | done | rfl | (simp only [List.length_drop, List.length_take]; rfl)) ?_; (with_reducible refine (span_Valid.calls k _ _ l0 false _ ?side1 ?side2 A2.out).mono ?_); (case side1 => repeat (first | exact HR0.out | (with_reducible refine Kd.C_alloc ?_ _) | (with_reducible refine Kd.C_drewN ?_ _) | (with_reducible refine Kd.C_drew ?_))); (case side2 => exact HC0.out); rintro e w10 ⟨rfl, hb⟩; refine ⟨_, rfl, ?_⟩; have n0_ := Aside0.mk (below_step (by repeat (first | (with_reducible first | exact HB.out | apply below_alloc | apply pw_below_drewN | apply below_drew1) | exact HB.out)) hb); clear HB; have HB := n0_; clear n0_; (try clear hb); (try clear hb2); (try clear hk); (try clear hi)))
    go_ret2
    exact ⟨by first | rfl | (simp [errW_none, errW_some] <;> rfl) | (simp [*, errW_none, errW_some] <;> rfl), by repeat (first | (with_reducible first | exact HB.out | apply below_alloc | apply pw_below_drewN | apply below_drew1) | exact HB.out)⟩

/-! ### rational_size: function 99 -/
def rational_size.f (a0 : Int) : Option (Int) := if a0 < 0 then (some (IntKind.u64.wrap (-(IntKind.u64.wrap (a0))))) else (some (IntKind.u64.wrap (a0)))
set_option maxHeartbeats 8000000 in
set_option maxRecDepth 100000 in
theorem rational_size.calls (a0 : Int) (r : Int) (w : World) (h : rational_size.f a0 = some r) :
    Calls Tryz.prog 99 #[.int .i64 a0] w fun e w' => e = .returned (.int .u64 r) ∧ Drawn0 w w' := by
  have H : (if a0 < 0 then (some (IntKind.u64.wrap (-(IntKind.u64.wrap (a0))))) else (some (IntKind.u64.wrap (a0)))) = some r := h
  clear h
  by_cases c2 : a0 < 0
  · rw [if_pos c2] at H
    have c2b0 : decide (a0 < 0) = true := decide_eq_true c2
    clear c2
    obtain rfl := Option.some.inj H
    go_enter Tryz.func99, Tryz.ntmps99
    go_wp2
    go_ret
    exact ⟨by first | rfl | (simp; done) | (simp [*]; done), by repeat (first | exact Drawn0.refl _ | apply Drawn0.step)⟩
  · rw [if_neg c2] at H
    have c2b0 : decide (a0 < 0) = false := decide_eq_false c2
    clear c2
    obtain rfl := Option.some.inj H
    go_enter Tryz.func99, Tryz.ntmps99
    go_wp2
    go_ret
    exact ⟨by first | rfl | (simp; done) | (simp [*]; done), by repeat (first | exact Drawn0.refl _ | apply Drawn0.step)⟩

/-! ### rational_common: function 100 -/
-- by hand: cohousing/rational.common
theorem gcd_step (x y : Nat) (hy : y ≠ 0) : Nat.gcd y (x % y) = Nat.gcd x y := by
  rw [Nat.gcd_comm x y, Nat.gcd_rec y x, Nat.gcd_comm]
/-- The greatest common divisor, of numbers from 0 to below 2^64. -/
def rational_common.f (a0 : Int) (a1 : Int) : Option Int := if 0 ≤ a0 ∧ a0 < 18446744073709551616 ∧ 0 ≤ a1 ∧ a1 < 18446744073709551616 then some (Int.gcd a0 a1 : Int) else none
set_option maxHeartbeats 2000000 in
theorem rational_common.calls (a0 : Int) (a1 : Int) (r : Int) (w : World) (h : rational_common.f a0 a1 = some r) :
    Calls Tryz.prog 100 #[.int .u64 a0, .int .u64 a1] w fun e w' => e = .returned (.int .u64 r) ∧ Drawn0 w w' := by
  unfold rational_common.f at h
  split at h
  · rename_i hr
    obtain ⟨h0, h1, h2, h3⟩ := hr
    obtain ⟨a, rfl⟩ := Int.eq_ofNat_of_zero_le h0
    obtain ⟨b, rfl⟩ := Int.eq_ofNat_of_zero_le h2
    obtain rfl := Option.some.inj h
    clear h
    have e0 : Int.gcd (a : Int) (b : Int) = Nat.gcd a b := rfl
    rw [e0]
    clear e0
    go_enter Tryz.func100, Tryz.ntmps100
    go_wp2
    refine wp_scope_straight ?_
    go_wp2
    go_step3
    go_wp2
    go_loopw [0, 1] (fun u v wr => ∃ x y : Nat, u = .int .u64 x ∧ v = .int .u64 y ∧ x < 18446744073709551616 ∧ y < 18446744073709551616 ∧ Aside0 (Nat.gcd x y = Nat.gcd a b) ∧ Drawn0 w wr) (fun _ v _ => (intOf v).toNat)
    case atStart => exact ⟨a, b, rfl, rfl, by omega, by omega, ⟨rfl⟩, Drawn0.refl _⟩
    case round =>
      obtain ⟨x, y, rfl, rfl, hx, hy, HG, hd⟩ := hrel
      by_cases hz : y = 0
      · subst hz
        have hE := HG.out
        rw [Nat.gcd_zero_right] at hE
        have HE := Aside0.mk hE
        clear hE HG
        go_wp2
        simp only [Exit.noGoto]
        go_ret
        exact ⟨by have hx_ := HE.out; subst hx_; rfl, hd⟩
      · have hyb : ((y : Int) == 0) = false := by simp; omega
        have hy0 : ¬ (y : Int) = 0 := by omega
        have HN : Aside0 (Nat.gcd y (x % y) = Nat.gcd a b) := ⟨(gcd_step x y hz).trans HG.out⟩
        have hlt : x % y < y := Nat.mod_lt _ (by omega)
        go_wp2
        go_region
        all_goals
          go_wp2
          go_roundw
          case rel => exact ⟨y, x % y, rfl, by go_num, by omega, by omega, HN, hd.step 1⟩
          case measure => simp [intOf]; omega
  · cases h

/-! ### rational_Make: function 41 -/
-- by hand: cohousing/rational.Make
/-- The number n / d: its reduced form, or an error. -/
def ratMk (n d : Int) : Int × Int × Int :=
  if d = 0 then (0, 0, 7)
  else if 1000000000 < n.natAbs / Nat.gcd n.natAbs d.natAbs ∨ 1000000000 < d.natAbs / Nat.gcd n.natAbs d.natAbs then (0, 0, 3)
  else (if (decide (n < 0)) != (decide (d < 0)) then -((n.natAbs / Nat.gcd n.natAbs d.natAbs : Nat) : Int) else ((n.natAbs / Nat.gcd n.natAbs d.natAbs : Nat) : Int), ((d.natAbs / Nat.gcd n.natAbs d.natAbs : Nat) : Int), 0)
def rational_Make.f (a0 : Int) (a1 : Int) : Option (Int × Int × Int) := if inI64 a0 ∧ inI64 a1 then some (ratMk a0 a1) else none
theorem size_eq (n : Int) (h0 : -9223372036854775808 ≤ n) (h1 : n ≤ 9223372036854775807) : rational_size.f n = some (n.natAbs : Int) := by
  unfold rational_size.f
  simp only [IntKind.wrap_u64]
  split <;> (congr 1; omega)
theorem common_eq (a b g : Nat) (ha : a < 18446744073709551616) (hb : b < 18446744073709551616) (h : Nat.gcd a b = g) : rational_common.f a b = some (g : Int) := by
  unfold rational_common.f
  rw [if_pos (by omega), ← h]
  rfl
theorem reduced_zero (n : Int) (w : World) :
    Calls Tryz.prog 69 #[.int .i64 n, .int .i64 0] w fun e w' => e = .panicked [{ v := .iface 27 (.int .i64 7), recovered := false }] ∧ Below w.heap.size w w' := by
  go_enter Tryz.func69, Tryz.ntmps69
  go_wp2
  exact ⟨rfl, rfl, below_alloc (Below.refl _ _) _⟩

theorem u64_small (x : Nat) (h : x ≤ 9223372036854775808) : IntKind.u64.wrap (x : Int) = (x : Int) := by rw [IntKind.wrap_u64]; omega
/-- What 'reduced' asks of its callees, laid once. -/
structure RedFacts (n d : Int) (a b g x y : Nat) : Prop where
  a_ : a ≤ 9223372036854775808
  b_ : b ≤ 9223372036854775808
  b1 : 1 ≤ b
  g_ : 1 ≤ g
  na : n.natAbs = a
  nb : d.natAbs = b
  c_ : Nat.gcd a b = g
  x_ : a / g = x
  y_ : b / g = y
theorem RedFacts.of (n d : Int) (hn : inI64 n) (hd : inI64 d) (hz : d ≠ 0) : RedFacts n d n.natAbs d.natAbs (Nat.gcd n.natAbs d.natAbs) (n.natAbs / Nat.gcd n.natAbs d.natAbs) (d.natAbs / Nat.gcd n.natAbs d.natAbs) := by
  obtain ⟨h0, h1⟩ := hn
  obtain ⟨h2, h3⟩ := hd
  exact ⟨by omega, by omega, by omega, Nat.gcd_pos_of_pos_right _ (by omega), rfl, rfl, rfl, rfl, rfl⟩
set_option maxHeartbeats 2000000 in
theorem reduced_range (n d : Int) (w : World) (hn : inI64 n) (hd : inI64 d) (hz : d ≠ 0) (a b g x y : Nat) (F : RedFacts n d a b g x y) (h : 1000000000 < x ∨ 1000000000 < y) :
    Calls Tryz.prog 69 #[.int .i64 n, .int .i64 d] w fun e w' => e = .panicked [{ v := .iface 27 (.int .i64 3), recovered := false }] ∧ Below w.heap.size w w' := by
  have hdb : (d == 0) = false := by simpa using hz
  have hg1 : 1 ≤ g := F.g_
  have hg2 : ¬ (g : Int) = 0 := by omega
  have ha := F.a_
  have hb := F.b_
  have hxl : x ≤ 9223372036854775808 := F.x_ ▸ Nat.le_trans (Nat.div_le_self _ _) ha
  have hyl : y ≤ 9223372036854775808 := F.y_ ▸ Nat.le_trans (Nat.div_le_self _ _) hb
  have HC := Aside0.mk (common_eq a b g (by omega) (by omega) F.c_)
  have HS : Aside0 (rational_size.f n = some (a : Int)) := ⟨F.na ▸ size_eq n hn.1 hn.2⟩
  have HD : Aside0 (rational_size.f d = some (b : Int)) := ⟨F.nb ▸ size_eq d hd.1 hd.2⟩
  have hxb : (a : Int) / (g : Int) = x := by rw [← F.x_]; rfl
  have hyb : (b : Int) / (g : Int) = y := by rw [← F.y_]; rfl
  have hwx := u64_small x hxl
  have hwy := u64_small y hyl
  by_cases hc : 1000000000 < x
  all_goals
    have hc1 : decide (1000000000 < (x : Int)) = decide (1000000000 < x) := by congr 1; simp; omega
    first
    | (have hc2 : decide (1000000000 < (x : Int)) = true := by simp; omega)
    | (have hc2 : decide (1000000000 < (x : Int)) = false := by simp; omega
       have hc3 : decide (1000000000 < (y : Int)) = true := by simp; omega)
    clear F h hc hc1 hz
    go_enter Tryz.func69, Tryz.ntmps69
    go_wp2_with fail
    refine (rational_size.calls n _ _ HS.out).mono ?_
    rintro e w' ⟨rfl, ⟨nd, rfl⟩⟩
    go_wp2_with fail
    refine (rational_size.calls d _ _ HD.out).mono ?_
    rintro e w' ⟨rfl, ⟨nd2, rfl⟩⟩
    go_wp2_with fail
    refine (rational_common.calls a b _ _ HC.out).mono ?_
    rintro e w' ⟨rfl, ⟨nd3, rfl⟩⟩
    go_wp2_with fail
    go_region
    go_wp2
    exact ⟨rfl, rfl, by repeat (first | exact Below.refl _ _ | apply below_alloc | apply pw_below_drewN | apply below_drew)⟩
set_option maxHeartbeats 2000000 in
theorem reduced_ok (n d : Int) (w : World) (hn : inI64 n) (hd : inI64 d) (hz : d ≠ 0) (a b g x y : Nat) (F : RedFacts n d a b g x y) (hx : x ≤ 1000000000) (hy : y ≤ 1000000000) (r : Int)
    (hr : Aside0 (r = if (decide (n < 0)) != (decide (d < 0)) then -(x : Int) else x)) :
    Calls Tryz.prog 69 #[.int .i64 n, .int .i64 d] w fun e w' => e = .returned (.agg #[.int .i64 r, .int .i64 y]) ∧ Below w.heap.size w w' := by
  have hdb : (d == 0) = false := by simpa using hz
  have hg1 : 1 ≤ g := F.g_
  have hg2 : ¬ (g : Int) = 0 := by omega
  have ha := F.a_
  have hb := F.b_
  have HC := Aside0.mk (common_eq a b g (by omega) (by omega) F.c_)
  have HS : Aside0 (rational_size.f n = some (a : Int)) := ⟨F.na ▸ size_eq n hn.1 hn.2⟩
  have HD : Aside0 (rational_size.f d = some (b : Int)) := ⟨F.nb ▸ size_eq d hd.1 hd.2⟩
  have hxb : (a : Int) / (g : Int) = x := by rw [← F.x_]; rfl
  have hyb : (b : Int) / (g : Int) = y := by rw [← F.y_]; rfl
  have hwx := u64_small x (by omega)
  have hwy := u64_small y (by omega)
  have hc2 : decide (1000000000 < (x : Int)) = false := by simp; omega
  have hc3 : decide (1000000000 < (y : Int)) = false := by simp; omega
  clear F hz
  by_cases h1 : n < 0 <;> by_cases h2 : d < 0
  all_goals
    first | (have h1b : decide (n < 0) = true := by simpa using h1) | (have h1b : decide (n < 0) = false := by simpa using h1)
    first | (have h2b : decide (d < 0) = true := by simpa using h2) | (have h2b : decide (d < 0) = false := by simpa using h2)
    rw [h1b, h2b] at hr
    go_enter Tryz.func69, Tryz.ntmps69
    go_wp2_with fail
    refine (rational_size.calls n _ _ HS.out).mono ?_
    rintro e w' ⟨rfl, ⟨nd, rfl⟩⟩
    go_wp2_with fail
    refine (rational_size.calls d _ _ HD.out).mono ?_
    rintro e w' ⟨rfl, ⟨nd2, rfl⟩⟩
    go_wp2_with fail
    refine (rational_common.calls a b _ _ HC.out).mono ?_
    rintro e w' ⟨rfl, ⟨nd3, rfl⟩⟩
    go_wp2_with fail
    go_region
    go_wp2
    have hE := hr.out
    simp at hE
    subst hE
    refine bodyPost_ret (v := .agg #[.int .i64 _, .int .i64 (y : Int)]) (by simp [results, Tryz.results69, go_sem]) rfl ⟨rfl, ?_⟩
    repeat (first | exact Below.refl _ _ | apply below_alloc | apply pw_below_drewN | apply below_drew | refine Below.setCell ?_ (by simp) _)
set_option maxRecDepth 100000 in
theorem caught_panicking (g1 g2 : Nat) (x y z c : Int) (B : Nat) (hne : ¬ g1 = g2) (older : List PanicEntry) (w : World)
    (h0 : w.cell? ⟨g1, 0, none⟩ = some (.int .i64 x)) (h1 : w.cell? ⟨g1, 1, none⟩ = some (.int .i64 y)) (h2 : w.cell? ⟨g2, 0, none⟩ = some (.int .i64 z))
    (f0 : w.frozen? ⟨g1, 0, none⟩ = false) (f1 : w.frozen? ⟨g1, 1, none⟩ = false) (f2 : w.frozen? ⟨g2, 0, none⟩ = false) (hB1 : B ≤ g1) (hB2 : B ≤ g2) :
    CallsD Tryz.prog 68 #[.pointer (some ⟨g1, 0, none⟩), .pointer (some ⟨g2, 0, none⟩)] (.panicking ({ v := .iface 27 (.int .i64 c), recovered := false } :: older)) w fun e u' w' =>
      e = .returned (.tuple #[]) ∧ u' = .panicking ({ v := .iface 27 (.int .i64 c), recovered := true } :: older) ∧ Below B w w' ∧
      w'.cell? ⟨g1, 0, none⟩ = some (.int .i64 0) ∧ w'.cell? ⟨g1, 1, none⟩ = some (.int .i64 0) ∧ w'.cell? ⟨g2, 0, none⟩ = some (.int .i64 c) := by
  refine callsD_of_wpS Tryz.func68 rfl fun c₀ cs hu => ?_
  apply wpS_seq
  apply wpS_region
  simp [wpOpsS, go_sem, recoverD, hu, Tryz.ntmps68, Exit.thenS]
  apply wpS_seq
  apply wpS_region
  simp [wpOpsS, go_sem, recoverD, hu, Tryz.ntmps68, Exit.thenS]
  refine wpS_cond (t := true) (by simp [Act.eval, Array.replicate]) ?_
  simp only [if_true]
  refine wpS_of_wp ?_
  go_wp2
  have hta : ∀ (v : Value) (W : World), (Instr.typeAssert (.iface 27 v) 20 27 false).run Tryz.prog W = .ok v W := fun v W => by rfl
  change Code.wp Tryz.prog _ _ { tmps := #[.pointer (some ⟨g1, 0, none⟩), .pointer (some ⟨g2, 0, none⟩), undef, undef, .iface 27 (.int .i64 c), .iface 27 (.int .i64 c), .iface 27 (.int .i64 c), .bool true, undef, undef, undef, undef, undef, undef, undef], defers := [] } w
  have hu24 := Tryz.underlying71
  clear hu
  go_region
  change bodyPostS _ _ _ _ _ _ _ _ _
  refine ⟨rfl, _, rfl, .tuple #[], results_none rfl _ _ _, rfl, rfl, below_drew ((((Below.refl _ _).setCell hB1 _).setCell hB1 _).setCell hB2 _), ?_, ?_, ?_⟩
  · go_simp
  · go_simp
  · go_simp
theorem caught_idle (p q : Option Addr) (w : World) :
    CallsD Tryz.prog 68 #[.pointer p, .pointer q] .returning w fun e u' w' => e = .returned (.tuple #[]) ∧ u' = .returning ∧ w' = w := by
  refine callsD_of_wpS Tryz.func68 rfl fun c₀ cs hu => ?_
  apply wpS_seq
  apply wpS_region
  simp [wpOpsS, go_sem, recoverD, hu, Tryz.ntmps68, Exit.thenS]
  apply wpS_seq
  apply wpS_region
  simp [wpOpsS, go_sem, recoverD, hu, Tryz.ntmps68, Exit.thenS]
  refine wpS_cond (t := false) (by simp [Act.eval, Array.replicate]) ?_
  simp only [Bool.false_eq_true, if_false]
  refine wpS_of_wp (wp_skip ?_)
  cases c₀
  simp_all [bodyPostS, results, Tryz.results68]
set_option maxRecDepth 100000 in
theorem make_panics (n d c : Int) (w : World) (h : ∀ W, Calls Tryz.prog 69 #[.int .i64 n, .int .i64 d] W fun e w' => e = .panicked [{ v := .iface 27 (.int .i64 c), recovered := false }] ∧ Below W.heap.size W w') :
    Calls Tryz.prog 41 #[.int .i64 n, .int .i64 d] w fun e w' => e = .returned (.tuple #[.agg #[.int .i64 0, .int .i64 0], .int .i64 c]) ∧ Below w.heap.size w w' := by
  have H := Lib.hid h
  clear h
  go_enter_defers Tryz.func41, Tryz.ntmps41
  go_wp2_with fail
  refine (H.out _).mono ?_
  rintro e w1 ⟨rfl, hb⟩
  have hz := hb.size
  simp at hz
  have c0 : w1.cell? ⟨w.heap.size, 0, none⟩ = some (.int .i64 0) := (hb.cell (p := ⟨w.heap.size, 0, none⟩) (by simp; omega)).trans (by go_simp)
  have c1 : w1.cell? ⟨w.heap.size, 1, none⟩ = some (.int .i64 0) := (hb.cell (p := ⟨w.heap.size, 1, none⟩) (by simp; omega)).trans (by go_simp)
  have c2 : w1.cell? ⟨w.heap.size + 1, 0, none⟩ = some (.int .i64 0) := (hb.cell (p := ⟨w.heap.size + 1, 0, none⟩) (by simp)).trans (by go_simp)
  have f0 : w1.frozen? ⟨w.heap.size, 0, none⟩ = false := (hb.frozen (p := ⟨w.heap.size, 0, none⟩) (by simp; omega)).trans (by go_simp)
  have f1 : w1.frozen? ⟨w.heap.size, 1, none⟩ = false := (hb.frozen (p := ⟨w.heap.size, 1, none⟩) (by simp; omega)).trans (by go_simp)
  have f2 : w1.frozen? ⟨w.heap.size + 1, 0, none⟩ = false := (hb.frozen (p := ⟨w.heap.size + 1, 0, none⟩) (by simp)).trans (by go_simp)
  go_wp2
  refine leaves_cons (f := 68) (args := #[.pointer (some ⟨w.heap.size, 0, none⟩), .pointer (some ⟨w.heap.size + 1, 0, none⟩)]) (by simp) (by simp [go_sem]) ?_
  refine (caught_panicking w.heap.size (w.heap.size + 1) 0 0 0 c w.heap.size (by omega) [] _ c0 c1 c2 f0 f1 f2 (by omega) (by omega)).mono ?_
  rintro e u' w2 ⟨rfl, rfl, hb2, d0, d1, d2⟩
  simp [Leaves, settle, results, Tryz.results41, go_sem, d0, d1, d2]
  exact ((((Below.refl _ _).alloc (Nat.le_refl _) _).alloc (by simp) _).trans (hb.mono (by simp; omega))).trans hb2
set_option maxRecDepth 100000 in
theorem make_returns (n d x y : Int) (w : World) (h : ∀ W, Calls Tryz.prog 69 #[.int .i64 n, .int .i64 d] W fun e w' => e = .returned (.agg #[.int .i64 x, .int .i64 y]) ∧ Below W.heap.size W w') :
    Calls Tryz.prog 41 #[.int .i64 n, .int .i64 d] w fun e w' => e = .returned (.tuple #[.agg #[.int .i64 x, .int .i64 y], .int .i64 0]) ∧ Below w.heap.size w w' := by
  have H := Lib.hid h
  clear h
  have hu24 := Tryz.underlying71
  go_enter_defers Tryz.func41, Tryz.ntmps41
  go_wp2_with fail
  refine (H.out _).mono ?_
  rintro e w1 ⟨rfl, hb⟩
  have hz := hb.size
  simp at hz
  have c0 : w1.cell? ⟨w.heap.size, 0, none⟩ = some (.int .i64 0) := (hb.cell (p := ⟨w.heap.size, 0, none⟩) (by simp; omega)).trans (by go_simp)
  have c1 : w1.cell? ⟨w.heap.size, 1, none⟩ = some (.int .i64 0) := (hb.cell (p := ⟨w.heap.size, 1, none⟩) (by simp; omega)).trans (by go_simp)
  have c2 : w1.cell? ⟨w.heap.size + 1, 0, none⟩ = some (.int .i64 0) := (hb.cell (p := ⟨w.heap.size + 1, 0, none⟩) (by simp)).trans (by go_simp)
  have f0 : w1.frozen? ⟨w.heap.size, 0, none⟩ = false := (hb.frozen (p := ⟨w.heap.size, 0, none⟩) (by simp; omega)).trans (by go_simp)
  have f1 : w1.frozen? ⟨w.heap.size, 1, none⟩ = false := (hb.frozen (p := ⟨w.heap.size, 1, none⟩) (by simp; omega)).trans (by go_simp)
  have f2 : w1.frozen? ⟨w.heap.size + 1, 0, none⟩ = false := (hb.frozen (p := ⟨w.heap.size + 1, 0, none⟩) (by simp)).trans (by go_simp)
  go_wp2
  refine leaves_cons (f := 68) (args := #[.pointer (some ⟨w.heap.size, 0, none⟩), .pointer (some ⟨w.heap.size + 1, 0, none⟩)]) (by simp) (by simp [go_sem]) ?_
  refine (caught_idle _ _ _).mono ?_
  rintro e u' w2 ⟨rfl, rfl, rfl⟩
  simp [Leaves, settle, results, Tryz.results41, go_sem, c0, c1, c2, f0, f1, f2]
  exact (((((Below.refl _ _).alloc (Nat.le_refl _) _).alloc (by simp) _).trans (hb.mono (by simp; omega))).setCell (by simp) _).setCell (by simp) _ |>.setCell (by simp) _
theorem rational_Make.calls (a0 : Int) (a1 : Int) (r1 r2 r3 : Int) (w : World) (h : rational_Make.f a0 a1 = some (r1, r2, r3)) :
    Calls Tryz.prog 41 #[.int .i64 a0, .int .i64 a1] w fun e w' => e = .returned (.tuple #[.agg #[.int .i64 r1, .int .i64 r2], .int .i64 r3]) ∧ Below w.heap.size w w' := by
  unfold rational_Make.f at h
  split at h
  · rename_i hr
    obtain ⟨hn, hd⟩ := hr
    replace h := Option.some.inj h
    unfold ratMk at h
    split at h
    · rename_i hz
      subst hz
      cases h
      exact make_panics _ _ _ _ (fun W => reduced_zero _ _)
    · rename_i hz
      have F := RedFacts.of a0 a1 hn hd hz
      split at h
      · rename_i hc
        cases h
        exact make_panics _ _ _ _ (fun W => reduced_range _ _ _ hn hd hz _ _ _ _ _ F hc)
      · rename_i hc
        simp only [Prod.mk.injEq] at h
        obtain ⟨h1, rfl, rfl⟩ := h
        exact make_returns _ _ _ _ _ (fun W => reduced_ok _ _ _ hn hd hz _ _ _ _ _ F (by omega) (by omega) _ ⟨h1.symm⟩)
  · cases h

/-! ### money_amount_valid: function 70 -/
def money_amount_valid.f (a0 : Int) : Option (Bool) := if (-1000000000) ≤ a0 then (some (decide (a0 ≤ 1000000000))) else (some false)
set_option maxHeartbeats 8000000 in
set_option maxRecDepth 100000 in
theorem money_amount_valid.calls (a0 : Int) (r : Bool) (w : World) (h : money_amount_valid.f a0 = some r) :
    Calls Tryz.prog 70 #[.int .i64 a0] w fun e w' => e = .returned (.bool r) ∧ Drawn0 w w' := by
  have H : (if (-1000000000) ≤ a0 then (some (decide (a0 ≤ 1000000000))) else (some false)) = some r := h
  clear h
  by_cases c2 : (-1000000000) ≤ a0
  · rw [if_pos c2] at H
    have c2b0 : decide ((-1000000000) ≤ a0) = true := decide_eq_true c2
    clear c2
    obtain rfl := Option.some.inj H
    go_enter Tryz.func70, Tryz.ntmps70
    go_wp2
    go_ret
    exact ⟨by first | rfl | (simp; done) | (simp [*]; done), by repeat (first | exact Drawn0.refl _ | apply Drawn0.step)⟩
  · rw [if_neg c2] at H
    have c2b0 : decide ((-1000000000) ≤ a0) = false := decide_eq_false c2
    clear c2
    obtain rfl := Option.some.inj H
    go_enter Tryz.func70, Tryz.ntmps70
    go_wp2
    go_ret
    exact ⟨by first | rfl | (simp; done) | (simp [*]; done), by repeat (first | exact Drawn0.refl _ | apply Drawn0.step)⟩

end Go.Proofs.YtnkgnjklkocojaaGreatDoor.X
