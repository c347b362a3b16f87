-- Written by a program of mine (wip/tools/xprint.py) over the kit's print.py: printed functions and hand-proved ones side by side.
import Derived.Test.YtbfgblfhonpgaaaXx0
import Derived.Test.YtbfgblfhonpgaaaXx1
import Derived.Test.YtbfgblfhonpgaaaXx2
import Derived.Test.YtbfgblfhonpgaaaXx3
import Derived.Test.YtbfgblfhonpgaaaXx4
import Derived.Test.YtbfgblfhonpgaaaXx5
import Derived.Test.YtbfgblfhonpgaaaXx6
namespace Go.Proofs.Ytbfgblfhonpgaaa.X
open Go.RowKit Go.Proofs.YtbfgblfhonpgaaaW.PrintWords Go.Proofs.YtbfgblfhonpgaaaW.PrintLast Go.Proofs.YtbfgblfhonpgaaaW.PrintMore
attribute [local go_sem] max2_int min2_int max_two min_two max_three min_three max_four min_four   -- for this text's walks alone
set_option linter.unusedVariables false
set_option linter.unusedSimpArgs false

attribute [local go_sem high] eqA30
/-! ### span_Normal: function 11 -/
-- by hand: cohousing/span.Normal
section
open Go.Sort (grow alloc_eq_grow grow_grow)
open Go.Sort (Holds putRow flatK HoldsK putRowK)
theorem holds30 {w : World} {g : Nat} {l : List S30} (h : ∀ j, j < l.length → w.cell? ⟨g, j * 2, none⟩ = some (.int .i64 (l[j]!).f0) ∧ w.cell? ⟨g, j * 2 + 1, none⟩ = some (.int .i64 (l[j]!).f1)) (hf : ∀ j, w.frozen? ⟨g, j, none⟩ = false) : HoldsK enc30 2 w g 0 l.toArray := by
  intro t ht
  rw [Go.Sort.size_flatK] at ht
  have ht' : t < l.length * 2 := by simpa using ht
  rw [Go.Sort.get_flatK _ _ _ _ ht, Nat.zero_add]
  refine ⟨?_, hf t⟩
  have hj := h (t / 2) (by omega)
  have e1 : (l.toArray)[t / 2]! = l[t / 2]! := by simp
  rw [e1]
  generalize l[t / 2]! = y at hj
  have hm : t % 2 = 0 ∨ t % 2 = 1 := by omega
  rcases hm with hm | hm
  · rw [hm, show t = t / 2 * 2 by omega]
    exact hj.1
  · rw [hm, show t = t / 2 * 2 + 1 by omega]
    exact hj.2
theorem row_of_holds {w : World} {g : Nat} {d : Array S30} (h : HoldsK enc30 2 w g 0 d) (hs : d.size ≤ 9223372036854775807) : Kd.C k30 w (some ⟨g, 0, none⟩) d.toList.length d.toList := by
  refine ⟨rfl, by simpa using hs, fun _ => ⟨_, rfl, fun j p hp => ⟨[.int .i64 p.f0, .int .i64 p.f1], rfl, k30_mk w p, fun i u hu => ?_⟩⟩⟩
  have hj : j < d.size := by
    have := (List.getElem?_eq_some_iff.mp hp).1
    simpa using this
  have ep : d[j]! = p := by
    have := (List.getElem?_eq_some_iff.mp hp).2
    rw [getElem!_pos d j hj, ← this]
    simp
  have hi : i < 2 := (List.getElem?_eq_some_iff.mp hu).1
  have hc := (h (j * 2 + i) (by rw [Go.Sort.size_flatK]; omega)).1
  rw [Go.Sort.get_flatK _ _ _ _ (by omega), Nat.zero_add, show (j * 2 + i) / 2 = j by omega, show (j * 2 + i) % 2 = i by omega, ep] at hc
  rw [show k30.sz = 2 from rfl, add_plain, hc]
  have : i = 0 ∨ i = 1 := by omega
  rcases this with rfl | rfl
  · simpa [enc30] using hu
  · simpa [enc30] using hu
theorem fl_get (l : List S30) : ∀ j, j < l.length → (fl l)[j * 2]? = some (.int .i64 (l[j]!).f0) ∧ (fl l)[j * 2 + 1]? = some (.int .i64 (l[j]!).f1) := by
  induction l with
  | nil => intro j h; simp at h
  | cons s r ih =>
    intro j h
    have e : fl (s :: r) = .int .i64 s.f0 :: .int .i64 s.f1 :: fl r := rfl
    rw [e]
    cases j with
    | zero => exact ⟨rfl, rfl⟩
    | succ j =>
      have := ih j (by simpa using h)
      rw [show (j + 1) * 2 = j * 2 + 1 + 1 by omega]
      exact this
set_option maxHeartbeats 2000000 in
set_option maxRecDepth 100000 in
theorem clone_empty (ad : Addr) (c : Nat) (W : World) : Calls Try.prog 29 #[.slice (some ad) 0 c] W fun e w' => ∃ p cap, e = .returned (.slice p 0 cap) ∧ Below W.heap.size W w' := by
  have q22 : ∀ (w : World) (a : Option Addr) (n c n' c' : Nat), (binOp .eql 22 (.slice a n c) (.slice none n' c')).run Try.prog w = .ok (.bool a.isNone) w := fun w a n c n' c' => Lib.run_eql_slice_nil w _ _ a n c n' c' Try.underlying22
  go_enter Try.func29, Try.ntmps29
  go_wp2
  go_ret
  exact ⟨_, _, rfl, below_alloc (Below.refl _ _) _⟩
theorem clone_ok (A0 : Option Addr) (c0 : Nat) (l0 : List S30) (W : World) (hC : Kd.C k30 W A0 l0.length l0) (hbig : l0.length < 8796093022208) :
    Calls Try.prog 29 #[.slice A0 l0.length c0] W fun e w' => ∃ v, e = .returned v ∧ ((l0 = [] ∧ ∃ p cap, v = .slice p 0 cap) ∨ (0 < l0.length ∧ ∃ g cap, v = .slice (some ⟨g, 0, none⟩) l0.length cap ∧ HoldsK enc30 2 w' g 0 l0.toArray ∧ g < w'.heap.size ∧ W.heap.size ≤ g)) ∧ Below W.heap.size W w' := by
  by_cases h0 : l0 = []
  · subst h0
    cases A0 with
    | none =>
      have hcon := AnyE.slices_Clone_nil Try.layClone 0 c0 W
      refine hcon.mono ?_
      rintro e w' ⟨rfl, rfl⟩
      exact ⟨_, rfl, .inl ⟨rfl, none, 0, rfl⟩, Below.refl _ _⟩
    | some ad =>
      refine (clone_empty ad c0 W).mono ?_
      rintro e w' ⟨p, cap, rfl, hb⟩
      exact ⟨_, rfl, .inl ⟨rfl, p, cap, rfl⟩, hb⟩
  · have hpos : 0 < l0.length := List.length_pos_iff.mpr h0
    obtain ⟨b, off, rfl, hb, hc⟩ := row30 hC hpos
    obtain ⟨i0, hi, hzz⟩ := Option.map_eq_some_iff.1 info30
    simp only [Prod.mk.injEq] at hzz
    obtain ⟨hz0, hz1, hz2⟩ := hzz
    have hnews : ∀ j u, (fl l0)[j]? = some u → W.cell? ⟨b, off + j, none⟩ = some u := by
      intro j u hu
      have hj := (List.getElem?_eq_some_iff.mp hu).1
      rw [fl_len] at hj
      have hh := hc (j / 2) (by omega)
      have hfl : (fl l0)[j]? = some (if j % 2 = 0 then .int .i64 (l0[j / 2]!).f0 else .int .i64 (l0[j / 2]!).f1) := by
        have hg := fl_get l0 (j / 2) (by omega)
        have hm : j % 2 = 0 ∨ j % 2 = 1 := by omega
        rcases hm with hm | hm
        · have e : j / 2 * 2 = j := by omega
          rw [if_pos hm, ← hg.1, e]
        · have e : j / 2 * 2 + 1 = j := by omega
          rw [if_neg (by omega), ← hg.2, e]
      rw [hfl] at hu
      obtain rfl := Option.some.inj hu
      have hm : j % 2 = 0 ∨ j % 2 = 1 := by omega
      rcases hm with hm | hm
      · rw [if_pos hm, show off + j = off + j / 2 * 2 by omega]
        exact hh.1
      · rw [if_neg (by omega), show off + j = off + j / 2 * 2 + 1 by omega]
        exact hh.2
    have hone : ∀ u ∈ fl l0, u.oneCell' = true := by
      intro u hu
      unfold fl at hu
      obtain ⟨s, _, hs⟩ := List.mem_flatMap.mp hu
      simp at hs
      rcases hs with rfl | rfl <;> rfl
    refine (AnyE.slices_Clone Try.layClone i0 _ 2 16 hi hz0 hz1 hz2 rfl (by decide) Try.sizeOf30 b off l0.length c0 (fl l0) W (by rw [fl_len]; omega) (by simp only [maxLen]; omega) (by omega) hnews hone).mono ?_
    rintro e w' ⟨v', rfl, ho, hne, hbel⟩
    refine ⟨v', rfl, .inr ⟨hpos, ?_⟩, hbel⟩
    rcases ho.2 with ⟨_, h0'⟩ | ⟨g, cap, cur, hv, hg, hh, hcap, hmax, hcs, htake⟩
    · omega
    · refine ⟨g, cap, hv, ?_, (Array.getElem?_eq_some_iff.mp hh).1, hg⟩
      refine holds30 (fun j hj => ?_) (fun j => by simp [World.frozen?, hh])
      have hgt := fl_get l0 j hj
      have c1 := ho.cells (g := g) (by rw [hv]; rfl) _ _ hgt.1
      have c2 := ho.cells (g := g) (by rw [hv]; rfl) _ _ hgt.2
      rw [add_plain] at c1 c2
      exact ⟨c1, c2⟩
set_option maxHeartbeats 2000000 in
theorem sort_none (p : Option Addr) (cap : Nat) (fv : Value) (W : World) : Calls Try.prog 30 #[.slice p 0 cap, fv] W fun e w' => e = .returned (.tuple #[]) ∧ w' = W := by
  have hins : ∀ W, Calls Try.prog 51 #[.slice p 0 cap, .int .i64 0, .int .i64 0, fv] W fun e w' => e = .returned (.tuple #[]) ∧ w' = W := by
    intro W
    go_enter Try.func51, Try.ntmps51
    go_wp2
    refine wp_loop_rounds 1 ?_
    rw [rounds_succ]
    go_wp2
    go_end0
    exact ⟨rfl, rfl⟩
  have HI := Lib.hid hins
  clear hins
  have hpdq : ∀ (lim : Int) W, Calls Try.prog 44 #[.slice p 0 cap, .int .i64 0, .int .i64 0, .int .i64 lim, fv] W fun e w' => e = .returned (.tuple #[]) ∧ w' = W := by
    intro lim W
    go_enter Try.func44, Try.ntmps44
    go_wp2
    refine wp_loop_rounds 1 ?_
    rw [rounds_succ]
    go_wp2_with (go_at_call 51; refine (HI.out _).mono ?_; rintro e w' ⟨rfl, rfl⟩)
    (try simp only [Exit.inBlock, Exit.then])
    refine bodyPost_ret (results_none rfl _ _ _) rfl ?_
    exact ⟨rfl, rfl⟩
  have HP := Lib.hid hpdq
  clear hpdq
  have hlen := Try.bits_Len 0 W (by omega) (by omega)
  have HL := Lib.hid hlen
  clear hlen
  go_enter Try.func30, Try.ntmps30
  go_wp2_with (first
    | (go_at_call 45; refine HL.out.mono ?_; rintro e w' ⟨rfl, rfl⟩)
    | (go_at_call 44; refine (HP.out _ _).mono ?_; rintro e w' ⟨rfl, rfl⟩))
  go_end0
  exact ⟨rfl, rfl⟩
/-- The comparison of stretches by their first day. -/
def cf30 (x y : S30) : Int := Lib.compareInt x.f0 y.f0
theorem lt30 (x y : S30) : ltOf cf30 x y = decide (x.f0 < y.f0) := by
  unfold ltOf cf30 Lib.compareInt
  by_cases h1 : x.f0 < y.f0
  · simp [h1]
  · by_cases h2 : y.f0 < x.f0 <;> simp [h1, h2]
theorem swo30 : Go.Sort.SWO (ltOf cf30) where
  irrefl x := by rw [lt30]; simp
  trans x y z h1 h2 := by rw [lt30] at *; simp at *; omega
  ntrans x y z h1 h2 := by rw [lt30] at *; simp at *; omega
/-- Stretches sorted by their first day, as the library sorts them. -/
def sorted30 (l : List S30) : List S30 := (Go.Sort.pdq (ltOf cf30) l.toArray 0 l.toArray.size (Lib.bitLen l.toArray.size) true true).toList
open Go.Sort (Holds putRow flatK HoldsK putRowK)
theorem below_putRow' {α : Type} [Inhabited α] (enc : α → Value) {w0 w : World} {B : Nat} (h : Below B w0 w) (blk off : Nat) (d : Array α) (hb : B ≤ blk) (m : Nat) : Below B w0 (putRow enc (Go.Sort.ahead w m) blk off d) := by
  refine ⟨h.os, h.tape, h.output, by simp [Go.Sort.ahead, h.size], fun k hk => ?_⟩
  rw [← h.block k hk]
  simp only [putRow, Go.Sort.mapBlock, Array.getElem?_modify]
  rw [if_neg (by omega)]
  rfl
theorem sorted30_len (l : List S30) : (sorted30 l).length = l.length := by
  have h := Go.Sort.pdq_sorts (ltOf cf30) swo30 l.toArray 0 l.toArray.size (Lib.bitLen l.toArray.size) true true (Nat.zero_le _) (Nat.le_refl _) (Or.inl rfl)
  have := h.1.1
  unfold sorted30
  simpa using this
theorem sort_ok (W w1 : World) (g B cap : Nat) (l : List S30) (hpos : 0 < l.length) (hbig : l.length < 8796093022208) (hB0 : Below W.heap.size W w1) (hg0 : W.heap.size ≤ g) (hg : g < w1.heap.size) (hH : HoldsK enc30 2 w1 g 0 l.toArray) (hne : B ≠ g) (hc : w1.cell? ⟨B, 0, none⟩ = some (.func (.func 32) #[] #[])) :
    Calls Try.prog 30 #[.slice (some ⟨g, 0, none⟩) l.length cap, .func (.func 46) #[] #[.pointer (some ⟨B, 0, none⟩)]] w1 fun e w' => e = .returned (.tuple #[]) ∧ Kd.C k30 w' (some ⟨g, 0, none⟩) (sorted30 l).length (sorted30 l) ∧ Below W.heap.size W w' := by
  have eg : ∀ args w, (callFunc 46 args).run Try.prog w = .ok (.enter 46 args) w := enters_of Try.func46 (by kernel_rfl) rfl
  have hB1 := World.block_lt_of_cell? w1 _ hc
  have hcmp : CmpLays Try.prog 46 #[.pointer (some ⟨B, 0, none⟩)] enc30 2 cf30 g 0 l.toArray.size w1 := by
    intro m os dk hdk x y
    have hcc : (sortWorldK enc30 2 w1 g 0 m dk os).cell? ⟨B, 0, none⟩ = some (.func (.func 32) #[] #[]) := by
      unfold sortWorldK
      have hs : (putRowK enc30 2 (Go.Sort.ahead w1 m) g 0 dk).heap.size = w1.heap.size := by
        unfold putRowK
        rw [Go.Sort.size_putRow]
        rfl
      rw [Go.Sort.cell?_grow _ _ _ (by rw [hs]; exact hB1)]
      unfold putRowK
      rw [Go.Sort.cell?_putRow_other _ _ _ _ _ _ (.inl hne)]
      exact hc
    exact clo46 x y B _ hcc
  have hcon := AnyQ.slices_SortFunc_eq Try.laySort 2 Try.isAgg30 Try.sizeOf30 enc30 (fun _ => rfl) (fun x v hv => by simp [enc30] at hv; rcases hv with rfl | rfl <;> rfl) cf30 swo30 46 #[.pointer (some ⟨B, 0, none⟩)] g 0 cap l.toArray w1 eg hcmp hH hg (by simp; omega)
  refine hcon.mono ?_
  rintro e w' ⟨rfl, n, os, hw⟩
  have hlen : (sorted30 l).length = l.length := sorted30_len l
  have hsz : (Go.Sort.pdq (ltOf cf30) l.toArray 0 l.toArray.size (Lib.bitLen l.toArray.size) true true).size = l.toArray.size := by
    have : (Go.Sort.pdq (ltOf cf30) l.toArray 0 l.toArray.size (Lib.bitLen l.toArray.size) true true).size = (sorted30 l).length := by unfold sorted30; simp
    rw [this, hlen]
    simp
  have hH2 : HoldsK enc30 2 w' g 0 (Go.Sort.pdq (ltOf cf30) l.toArray 0 l.toArray.size (Lib.bitLen l.toArray.size) true true) := by
    rw [hw]
    unfold sortWorldK
    refine Go.Sort.holdsK_grow enc30 2 _ _ _ _ _ ?_ (Go.Sort.holdsK_putRowK enc30 2 _ _ _ _ _ (Go.Sort.holdsK_ahead enc30 2 _ _ _ _ _ hH) hsz)
    unfold putRowK
    rw [Go.Sort.size_putRow]
    exact hg
  refine ⟨rfl, ?_, ?_⟩
  · have := row_of_holds hH2 (by rw [hsz]; simp; omega)
    exact this
  · rw [hw]
    unfold sortWorldK putRowK
    have hw1 := hB0.size
    exact below_grow' (below_putRow' id hB0 g 0 _ hg0 n) (by rw [Go.Sort.size_putRow]; exact hw1) os
/-- From and Until are those of a stretch. -/
def strB (s : S30) : Bool := decide (0 ≤ s.f0) && (decide (s.f0 < s.f1) && decide (s.f1 ≤ 36525))
theorem stretch_f (x y : Int) : span_stretch.f x y = some (strB ⟨x, y⟩) := by
  unfold span_stretch.f strB
  by_cases h1 : 0 ≤ x
  · by_cases h2 : x < y
    · rw [if_pos h1, if_pos h2]; simp [h1, h2]
    · rw [if_pos h1, if_neg h2]; simp [h1, h2]
  · rw [if_neg h1]; simp [h1]
def normF (l : List S30) : List S30 × Int := if l.all strB then limF ((sorted30 l).foldl addF []) else ([], 1)
def span_Normal.f (l0 : List S30) : Option (List S30 × Int) := if l0.length < 8796093022208 then some (normF l0) else none
theorem rd30_nat (l : List S30) (j : Nat) (h : j < l.length) : rd_T30 l (j : Int) = l[j] := by
  unfold rd_T30
  rw [Int.toNat_natCast, List.getD_eq_getElem?_getD, List.getElem?_eq_getElem h]
  rfl
theorem drop_one (l : List S30) (j : Nat) (h : j < l.length) : l.drop j = rd_T30 l (j : Int) :: l.drop (j + 1) := by
  rw [rd30_nat l j h]
  exact List.drop_eq_getElem_cons h
theorem sort_any (w w2 : World) (v : Value) (l : List S30) (hbig : l.length < 8796093022208) (hB : Below w.heap.size w w2)
    (hcl : (l = [] ∧ ∃ p cap, v = .slice p 0 cap) ∨ (0 < l.length ∧ ∃ g cap, v = .slice (some ⟨g, 0, none⟩) l.length cap ∧ Go.Sort.HoldsK enc30 2 w2 g 0 l.toArray ∧ g < w2.heap.size ∧ w.heap.size ≤ g)) :
    Calls Try.prog 30 #[v, .func (.func 46) #[] #[.pointer (some ⟨w2.heap.size, 0, none⟩)]] (w2.alloc (.cells #[.func (.func 32) #[] #[]] 51)) fun e w' => e = .returned (.tuple #[]) ∧ (∃ A cp, v = .slice A (sorted30 l).length cp ∧ Kd.C k30 w' A (sorted30 l).length (sorted30 l)) ∧ Below w.heap.size w w' := by
  have hs := sorted30_len l
  rcases hcl with ⟨h0, p, cap, rfl⟩ | ⟨hpos, g, cap, rfl, hH, hg, hgb⟩
  · refine (sort_none p cap _ _).mono ?_
    rintro e w' ⟨rfl, rfl⟩
    have e0 : sorted30 l = [] := List.length_eq_zero_iff.mp (by rw [hs, h0]; rfl)
    rw [e0]
    exact ⟨rfl, ⟨p, cap, rfl, ⟨rfl, by simp, fun h => absurd h (Nat.lt_irrefl 0)⟩⟩, below_alloc hB _⟩
  · refine (sort_ok w _ g w2.heap.size cap l hpos hbig (below_alloc hB _) hgb (by rw [World.size_alloc]; omega) ?_ (by omega) ?_).mono ?_
    · rw [alloc_eq_grow]
      exact Go.Sort.holdsK_grow enc30 2 _ _ _ _ _ hg hH
    · exact (blk_cell (heap_alloc_new w2 _) 0).trans rfl
    · rintro e w' ⟨rfl, hC, hb⟩
      exact ⟨rfl, ⟨_, cap, by rw [hs], hC⟩, hb⟩
theorem foldl_take (l : List S30) (j : Nat) (out : List S30) (h : j < l.length) : (l.drop j).foldl addF out = (l.drop (j + 1)).foldl addF (addF out (rd_T30 l (j : Int))) := by
  rw [drop_one l j h]
  rfl
set_option maxHeartbeats 8000000 in
set_option maxRecDepth 100000 in
theorem span_Normal.calls (A0 : Option Addr) (c0 : Nat) (l0 : List S30) (r1 : List S30) (r2 : Int) (w : World) (hr0 : Kd.C k30 w A0 l0.length l0) (hc0 : l0.length ≤ c0) (h : span_Normal.f l0 = some (r1, r2)) :
    Calls Try.prog 11 #[.slice A0 l0.length c0] w fun e w' => ∃ v0_ : Value, e = .returned (.tuple #[v0_, .int .i64 r2]) ∧ Kd.R k30 30 w' w.heap.size (fun _ => True) v0_ r1 ∧ Below w.heap.size w w' := by
  have hu30 := Try.underlying30
  unfold span_Normal.f at h
  have hbig : l0.length < 8796093022208 := by
    rcases Nat.lt_or_ge l0.length 8796093022208 with h1 | h1
    · exact h1
    · rw [if_neg (by omega)] at h
      simp at h
  rw [if_pos hbig] at h
  have hn : normF l0 = (r1, r2) := Option.some.inj h
  have HN := Lib.hid hn
  have HR0 := Lib.hid hr0
  have HC0 := Lib.hid hc0
  have HBIG := Lib.hid hbig
  have HB := Lib.hid (Below.refl w.heap.size w)
  clear h hn hr0 hc0 hbig
  go_enter Try.func11, Try.ntmps11
  go_wp2
  go_loopg [12] (l0.length) (fun kq v12 w' => ∃ i : Nat, v12 = .int .i64 i ∧ Aside0 (i + kq = l0.length ∧ l0.all strB = (l0.drop i).all strB ∧ Below w.heap.size w w'))
  case atStart => exact ⟨0, rfl, ⟨by omega, rfl, HB.out⟩⟩
  case round =>
    clear HB
    obtain ⟨i, rfl, hi⟩ := hrel
    obtain ⟨hk, ha, hb⟩ := hi.out
    clear hi
    have HB := Lib.hid hb
    have HA := Lib.hid ha
    clear hb ha
    by_cases hlt : i < l0.length
    · obtain ⟨ad, e, x0, x1⟩ := at_T30 HR0.out (i : Int) (by omega) (by omega)
      subst e
      rw [Int.toNat_natCast] at x0 x1
      have y0 := (HB.out.cell (World.block_lt_of_cell? w _ x0)).trans x0
      have y1 := (HB.out.cell (World.block_lt_of_cell? w _ x1)).trans x1
      have hd := HA.out
      rw [drop_one l0 i hlt, List.all_cons] at hd
      generalize rd_T30 l0 (i : Int) = s at x0 x1 y0 y1 hd
      have HD := Lib.hid hd
      have hbig := HBIG.out
      have hw1 : IntKind.i64.wrap ((i : Int) + 1) = ((i + 1 : Nat) : Int) := by rw [IntKind.wrap_i64]; omega
      have hm : l0.length - (i + 1) < gk := by clear hw1; omega
      have hsum : (i + 1) + (l0.length - (i + 1)) = l0.length := by clear hw1; omega
      clear hd x0 x1 hbig
      have q1 : decide ((i : Int) < (l0.length : Int)) = true := decide_eq_true (by clear hw1; omega)
      have q0 : decide ((0 : Int) ≤ (i : Int)) = true := decide_eq_true (by clear hw1; omega)
      have q2 : ((i : Int) < (l0.length : Int)) = True := eq_true (by clear hw1; omega)
      have q3 : ((0 : Int) ≤ (i : Int)) = True := eq_true (by clear hw1; omega)
      cases hst : strB s with
      | true =>
        go_wp2_with (go_at_call 28; with_reducible refine (span_stretch.calls s.f0 s.f1 true _ (by rw [stretch_f]; exact congrArg some hst)).mono ?_; rintro e w2 ⟨rfl, hb⟩; have hb2 : Below w.heap.size w w2 := below_step (below_alloc HB.out _) hb; have HB2 := Lib.hid hb2; clear hb hb2)
        go_roundg (l0.length - (i + 1))
        case measure => exact hm
        case rel => exact ⟨i + 1, by simp, ⟨hsum, by rw [HD.out, hst, Bool.true_and], HB2.out⟩⟩
      | false =>
        go_wp2_with (go_at_call 28; with_reducible refine (span_stretch.calls s.f0 s.f1 false _ (by rw [stretch_f]; exact congrArg some hst)).mono ?_; rintro e w2 ⟨rfl, hb⟩; have hb2 : Below w.heap.size w w2 := below_step (below_alloc HB.out _) hb; have HB2 := Lib.hid hb2; clear hb hb2)
        go_ret2
        have e1 := HN.out
        unfold normF at e1
        rw [if_neg (by rw [HD.out, hst]; simp)] at e1
        simp only [Prod.mk.injEq] at e1
        obtain ⟨rfl, rfl⟩ := e1
        exact ⟨_, rfl, Kd.R_nil _ _ _ _ _, HB2.out⟩
    · have q1 : decide ((i : Int) < (l0.length : Int)) = false := decide_eq_false (by omega)
      have q2 : ((i : Int) < (l0.length : Int)) = False := eq_false (by omega)
      have hall : l0.all strB = true := by
        rw [HA.out, List.drop_of_length_le (by omega)]
        rfl
      have e1 := HN.out
      unfold normF at e1
      rw [if_pos hall] at e1
      have HE := Lib.hid e1
      clear e1 HA
      go_wp2_with (go_at_call 29; with_reducible refine (clone_ok A0 c0 l0 _ ?s1 HBIG.out).mono ?_; (case s1 => first | exact Kd.C_below HR0.out HB.out | exact Kd.C_drew (Kd.C_below HR0.out HB.out)); rintro e w2 ⟨v2, rfl, hcl, hb2⟩; have HCL := Lib.hid (show (l0 = [] ∧ ∃ p cap, v2 = .slice p 0 cap) ∨ (0 < l0.length ∧ ∃ g cap, v2 = .slice (some ⟨g, 0, none⟩) l0.length cap ∧ Go.Sort.HoldsK enc30 2 w2 g 0 l0.toArray ∧ g < w2.heap.size ∧ w.heap.size ≤ g) from by (rcases hcl with h | ⟨hp, g, cap, h1, h2, h3, h4⟩; (· exact .inl h); (· exact .inr ⟨hp, g, cap, h1, h2, h3, Nat.le_trans HB.out.size h4⟩))); have hb3 : Below w.heap.size w w2 := below_step HB.out hb2; have HB3 := Lib.hid hb3; clear hcl hb2 hb3)
      refine (by31 w2).mono ?_
      rintro e w3 ⟨rfl, rfl⟩
      go_wp2_with fail
      refine (sort_any w w2 v2 l0 HBIG.out HB3.out HCL.out).mono ?_
      rintro e w4 ⟨rfl, ⟨As, cs, hv, hC⟩, hb4⟩
      have hlen := sorted30_len l0
      have hbl := HBIG.out
      subst hv
      generalize hsr : sorted30 l0 = srt at hC hlen HE HCL ⊢
      have HCS := Lib.hid hC
      have HB4 := Lib.hid hb4
      obtain ⟨res, hres⟩ : ∃ r_, r_ = srt.foldl addF [] := ⟨_, rfl⟩
      have HRES := Lib.hid hres
      have HSL := Lib.hid (show srt.length < 8796093022208 by omega)
      have HE2 := Lib.hid (show limF res = (r1, r2) by rw [hres]; exact HE.out)
      clear hC hb4 hres hlen hbl HE HCL hsr HB3
      go_wp2
      go_loopg [7, 27] (srt.length) (fun kq v7 v27 w' => ∃ j : Nat, v27 = .int .i64 j ∧ ∃ out, Aside0 (j + kq = srt.length ∧ (srt.drop j).foldl addF out = res ∧ out.length ≤ j ∧ Kd.R k30 30 w' w4.heap.size (fun _ => True) v7 out ∧ Below w4.heap.size w4 w'))
      case atStart => exact ⟨0, rfl, [], ⟨by omega, HRES.out.symm, Nat.le_refl _, Kd.R_nil _ _ _ _ _, Below.refl _ _⟩⟩
      case round =>
        obtain ⟨j, rfl, out, hj⟩ := hrel
        obtain ⟨hk2, hfo, hol, hR, hb5⟩ := hj.out
        clear hj HRES
        have HFO := Lib.hid hfo
        have HR5 := Lib.hid hR
        have HB5 := Lib.hid hb5
        clear hfo hR hb5
        by_cases hlt : j < srt.length
        · obtain ⟨ad, e, x0, x1⟩ := at_T30 HCS.out (j : Int) (by omega) (by omega)
          subst e
          rw [Int.toNat_natCast] at x0 x1
          have y0 := (HB5.out.cell (World.block_lt_of_cell? w4 _ x0)).trans x0
          have y1 := (HB5.out.cell (World.block_lt_of_cell? w4 _ x1)).trans x1
          have hd := HFO.out
          rw [foldl_take srt j out hlt] at hd
          generalize rd_T30 srt (j : Int) = s at x0 x1 y0 y1 hd
          have HD := Lib.hid hd
          have hsl := HSL.out
          have hw1 : IntKind.i64.wrap ((j : Int) + 1) = ((j + 1 : Nat) : Int) := by rw [IntKind.wrap_i64]; omega
          have hm : srt.length - (j + 1) < gk := by clear hw1; omega
          have hsum : (j + 1) + (srt.length - (j + 1)) = srt.length := by clear hw1; omega
          have HOL := Lib.hid (show out.length < 8796093022208 by clear hw1; omega)
          have HO3 := Lib.hid (show (addF out s).length ≤ j + 1 from Nat.le_trans (addF_len _ _) (Nat.succ_le_succ hol))
          clear hd x0 x1 hsl hol
          have q1 : decide ((j : Int) < (srt.length : Int)) = true := decide_eq_true (by clear hw1; omega)
          have q0 : decide ((0 : Int) ≤ (j : Int)) = true := decide_eq_true (by clear hw1; omega)
          have q2 : ((j : Int) < (srt.length : Int)) = True := eq_true (by clear hw1; omega)
          have q3 : ((0 : Int) ≤ (j : Int)) = True := eq_true (by clear hw1; omega)
          go_wp2_with (go_at_call 33; with_reducible refine (span_add.calls (fun _ => True) u7 out s.f0 s.f1 (addF out s) w4 _ ?s1 ?s2 (add_f out s.f0 s.f1 HOL.out)).mono ?_; (case s1 => exact below_alloc HB5.out _); (case s2 => exact Kd.R_alloc HR5.out _); rintro e w6 ⟨v6, rfl, ho, hb, hk⟩; have HO6 := Lib.hid ho; have HB6 := Lib.hid hb; clear ho hb hk)
          go_roundg (srt.length - (j + 1))
          case measure => exact hm
          case rel => exact ⟨j + 1, by simp, addF out s, ⟨hsum, HD.out, HO3.out, Kd.R_mono HO6.out (fun _ _ => trivial), HB6.out⟩⟩
        · have q1 : decide ((j : Int) < (srt.length : Int)) = false := decide_eq_false (by omega)
          have q2 : ((j : Int) < (srt.length : Int)) = False := eq_false (by omega)
          have hout : out = res := by
            have := HFO.out
            rw [List.drop_of_length_le (by omega)] at this
            exact this
          subst hout
          have HLF := Lib.hid ((limited_f out).trans (congrArg some HE2.out))
          go_wp2_with (go_at_call 34; with_reducible refine (span_limited.calls (fun _ => True) u7 out r1 r2 w4 _ ?s1 ?s2 HLF.out).mono ?_; (case s1 => first | exact HB5.out | exact HB5.out.drew); (case s2 => first | exact HR5.out | exact Kd.R_drew HR5.out); rintro e w7 ⟨v7, rfl, ho, hb, hk⟩; have HO7 := Lib.hid ho; have HB7 := Lib.hid hb; clear ho hb hk)
          go_ret2
          exact ⟨_, rfl, Kd.R_lower (Kd.R_mono HO7.out (fun _ _ => trivial)) HB4.out.size, HB4.out.trans (HB7.out.mono HB4.out.size)⟩
end

/-! ### cohousingref04_Same: function 12 -/
def cohousingref04_Same.l0 : Nat → List (S30) → List (S30) → Int → Option (Bool)
  | 0, _, _, _ => none
  | k + 1, x0, x1, x5 => if x5 < (x0.length : Int) then (if 0 ≤ x5 then (if x5 < (x1.length : Int) then (if (!(((rd_T30 x0 x5).f0) == ((rd_T30 x1 x5).f0)) || (!(((rd_T30 x0 x5).f1) == ((rd_T30 x1 x5).f1)))) = true then (some false) else (cohousingref04_Same.l0 k x0 x1 (wrap64 (x5 + 1)))) else (none)) else (none)) else (some true)
def cohousingref04_Same.f (k : Nat) (l0 : List (S30)) (l1 : List (S30)) : Option (Bool) := if (l0.length : Int) = (l1.length : Int) then (cohousingref04_Same.l0 k l0 l1 0) else (some false)
theorem cohousingref04_Same.mono_l : ∀ k, (∀ y0 y1 y2, LeO (cohousingref04_Same.l0 k y0 y1 y2) (cohousingref04_Same.l0 (k + 1) y0 y1 y2))
  | 0 => fun _ _ _ r h => by simp [cohousingref04_Same.l0] at h
  | k + 1 => by
    have ih0 := cohousingref04_Same.mono_l k
    · intro y0 y1 y2
      unfold cohousingref04_Same.l0
      repeat' first
      | (with_reducible exact ih0 _ _ _)
      | (with_reducible exact LeO.refl _)
      | (with_reducible exact LeO.none _)
      | (with_reducible refine LeO.ite ?_ ?_)
      | (with_reducible refine LeO.bind ?_ (fun _ => ?_))
      | exact ih0 _ _ _
      | exact LeO.none _
      | refine LeO.ite ?_ ?_
      | refine LeO.bind ?_ (fun _ => ?_)
theorem cohousingref04_Same.mono : ∀ a0 a1 k, LeO (cohousingref04_Same.f k a0 a1) (cohousingref04_Same.f (k + 1) a0 a1) := by
  intro a0 a1 k
  have ih0 := cohousingref04_Same.mono_l k
  unfold cohousingref04_Same.f
  repeat' first
      | (with_reducible exact ih0 _ _ _)
      | (with_reducible exact LeO.refl _)
      | (with_reducible exact LeO.none _)
      | (with_reducible refine LeO.ite ?_ ?_)
      | (with_reducible refine LeO.bind ?_ (fun _ => ?_))
      | exact ih0 _ _ _
      | exact LeO.none _
      | refine LeO.ite ?_ ?_
      | refine LeO.bind ?_ (fun _ => ?_)
set_option maxHeartbeats 8000000 in
set_option maxRecDepth 100000 in
theorem cohousingref04_Same.calls (k : Nat) (A0 : Option Addr) (c0 : Nat) (l0 : List (S30)) (A1 : Option Addr) (c1 : Nat) (l1 : List (S30)) (r : Bool) (w : World) (hr0 : Kd.C k30 w A0 l0.length l0) (hc0 : l0.length ≤ c0) (hr1 : Kd.C k30 w A1 l1.length l1) (hc1 : l1.length ≤ c1) (h : cohousingref04_Same.f k l0 l1 = some r) :
    Calls Try.prog 12 #[.slice A0 l0.length c0, .slice A1 l1.length c1] w fun e w' => e = .returned (.bool r) ∧ Drawn0 w w' := by
  have hu30 := Try.underlying30
  have HR0 := Aside0.mk hr0
  have HC0 := Aside0.mk hc0
  clear hr0 hc0
  have HR1 := Aside0.mk hr1
  have HC1 := Aside0.mk hc1
  clear hr1 hc1
  have H : (if (l0.length : Int) = (l1.length : Int) then (cohousingref04_Same.l0 k l0 l1 0) else (some false)) = some r := h
  clear h
  by_cases c3 : (l0.length : Int) = (l1.length : Int)
  · rw [if_pos c3] at H
    have c3b0 : ((l0.length : Int) == (l1.length : Int)) = true := beq_iff_eq.mpr c3
    have c3b1 : ((l0.length : Int) != (l1.length : Int)) = false := bne_eq_false_iff_eq.mpr c3
    have c3b2 : (l0.length == l1.length) = true := by first | simpa using c3 | (simp at c3 ⊢; omega)
    clear c3
    have H' := Aside0.mk H
    clear H
    go_enter Try.func12, Try.ntmps12
    go_wp2
    repeat (go_quiet (fail); try go_wp2)
    go_loopg [5] k (fun kq v5 w' => ∃ (x5_1 : Int), v5 = .int .i64 x5_1 ∧ Aside0 (cohousingref04_Same.l0 kq l0 l1 x5_1 = some r) ∧ Aside0 (kq ≤ k) ∧ Drawn0 w w')
    case atStart => exact ⟨(0), (by first | rfl | (simp; done) | (simp [*]; done)), H', ⟨Nat.le_refl _⟩, by repeat (first | exact Drawn0.refl _ | apply Drawn0.step)⟩
    case round =>
      clear H'
      try clear c1
      try clear p2
      try clear c3
      try clear c3b0
      try clear c3b1
      try clear c3b2
      obtain ⟨x5_1, rfl, HA, HK1, ⟨m1, rfl⟩⟩ := hrel
      cases gk with
      | zero => exact absurd HA.out (by simp [cohousingref04_Same.l0])
      | succ k1 =>
        have H := HA.out
        clear HA
        simp only [cohousingref04_Same.l0] at H
        by_cases c4 : x5_1 < (l0.length : Int)
        · rw [if_pos c4] at H
          have c4b0 : decide (x5_1 < (l0.length : Int)) = true := decide_eq_true c4
          clear c4
          by_cases c5 : 0 ≤ x5_1
          · rw [if_pos c5] at H
            have c5b0 : decide (0 ≤ x5_1) = true := decide_eq_true c5
            clear c5
            by_cases c6 : x5_1 < (l1.length : Int)
            · rw [if_pos c6] at H
              have c6b0 : decide (x5_1 < (l1.length : Int)) = true := decide_eq_true c6
              clear c6
              by_cases c7 : (!(((rd_T30 l0 x5_1).f0) == ((rd_T30 l1 x5_1).f0)) || (!(((rd_T30 l0 x5_1).f1) == ((rd_T30 l1 x5_1).f1)))) = true
              · rw [if_pos c7] at H
                have c7b0 : (!(((rd_T30 l0 x5_1).f0) == ((rd_T30 l1 x5_1).f0)) || (!(((rd_T30 l0 x5_1).f1) == ((rd_T30 l1 x5_1).f1)))) = true := c7
                clear c7
                obtain rfl := Option.some.inj H
                have p116 : 0 ≤ (x5_1 : Int) := of_decide_eq_true (by first | (with_reducible assumption) | assumption)
                have q116 : x5_1 < (l0.length : Int) := of_decide_eq_true (by first | (with_reducible assumption) | assumption)
                obtain ⟨ad116, e116, hx116_0, hx116_1⟩ := at_T30 HR0.out x5_1 p116 q116
                cases e116
                replace p116 := eq_true p116
                replace q116 := eq_true q116
                have p117 : 0 ≤ (x5_1 : Int) := of_decide_eq_true (by first | (with_reducible assumption) | assumption)
                have q117 : x5_1 < (l1.length : Int) := of_decide_eq_true (by first | (with_reducible assumption) | assumption)
                obtain ⟨ad117, e117, hx117_0, hx117_1⟩ := at_T30 HR1.out x5_1 p117 q117
                cases e117
                replace p117 := eq_true p117
                replace q117 := eq_true q117
                go_wp2
                repeat (go_quiet (fail); try go_wp2)
                go_ret
                exact ⟨by first | rfl | (simp; done) | (simp [*]; done), by repeat (first | exact Drawn0.refl _ | apply Drawn0.step)⟩
              · rw [if_neg c7] at H
                have c7b0 : (!(((rd_T30 l0 x5_1).f0) == ((rd_T30 l1 x5_1).f0)) || (!(((rd_T30 l0 x5_1).f1) == ((rd_T30 l1 x5_1).f1)))) = false := by simpa using c7
                clear c7
                have H' := Aside0.mk H
                clear H
                have p116 : 0 ≤ (x5_1 : Int) := of_decide_eq_true (by first | (with_reducible assumption) | assumption)
                have q116 : x5_1 < (l0.length : Int) := of_decide_eq_true (by first | (with_reducible assumption) | assumption)
                obtain ⟨ad116, e116, hx116_0, hx116_1⟩ := at_T30 HR0.out x5_1 p116 q116
                cases e116
                replace p116 := eq_true p116
                replace q116 := eq_true q116
                have p117 : 0 ≤ (x5_1 : Int) := of_decide_eq_true (by first | (with_reducible assumption) | assumption)
                have q117 : x5_1 < (l1.length : Int) := of_decide_eq_true (by first | (with_reducible assumption) | assumption)
                obtain ⟨ad117, e117, hx117_0, hx117_1⟩ := at_T30 HR1.out x5_1 p117 q117
                cases e117
                replace p117 := eq_true p117
                replace q117 := eq_true q117
                go_wp2
                repeat (go_quiet (fail); try go_wp2)
                go_roundg k1
                case measure => have := HK1.out; omega
                case rel => exact ⟨(wrap64 (x5_1 + 1)), (by first | rfl | (simp; done) | (simp [*]; done)), H', ⟨by have := HK1.out; omega⟩, by repeat (first | exact Drawn0.refl _ | apply Drawn0.step)⟩
            · rw [if_neg c6] at H
              exact absurd H (by simp)
          · rw [if_neg c5] at H
            exact absurd H (by simp)
        · rw [if_neg c4] at H
          have c4b0 : decide (x5_1 < (l0.length : Int)) = false := decide_eq_false c4
          clear c4
          obtain rfl := Option.some.inj H
          go_wp2
          repeat (go_quiet (fail); try go_wp2)
          go_ret
          exact ⟨by first | rfl | (simp; done) | (simp [*]; done), by repeat (first | exact Drawn0.refl _ | apply Drawn0.step)⟩
  · rw [if_neg c3] at H
    have c3b0 : ((l0.length : Int) == (l1.length : Int)) = false := beq_eq_false_iff_ne.mpr c3
    have c3b1 : ((l0.length : Int) != (l1.length : Int)) = true := bne_iff_ne.mpr c3
    have c3b2 : (l0.length == l1.length) = false := by first | simpa using c3 | (simp at c3 ⊢; omega)
    obtain rfl := Option.some.inj H
    go_enter Try.func12, Try.ntmps12
    go_wp2
    repeat (go_quiet (fail); try go_wp2)
    go_ret
    exact ⟨by first | rfl | (simp; done) | (simp [*]; done), by repeat (first | exact Drawn0.refl _ | apply Drawn0.step)⟩

/-! ### span_Count: function 17 -/
def span_Count.l0 : Nat → Int → List (S30) → Int → Int → Option (Int × Int)
  | 0, _, _, _, _ => none
  | k + 1, x4, x10, x11, x12 => if x12 < x11 then (if 0 ≤ x12 then (if x12 < (x10.length : Int) then (span_Count.l0 k (wrap64 (x4 + (wrap64 (((rd_T30 x10 x12).f1) - ((rd_T30 x10 x12).f0))))) x10 x11 (wrap64 (x12 + 1))) else (none)) else (none)) else (some (x4, 0))
def span_Count.f (k : Nat) (l0 : List (S30)) : Option (Int × Int) := (span_Valid.f k l0).bind fun t118 => (if t118 = true then (span_Count.l0 k 0 l0 (l0.length : Int) 0) else (some (0, 1)))
theorem span_Count.mono_l : ∀ k, (∀ y0 y1 y2 y3, LeO (span_Count.l0 k y0 y1 y2 y3) (span_Count.l0 (k + 1) y0 y1 y2 y3))
  | 0 => fun _ _ _ _ r h => by simp [span_Count.l0] at h
  | k + 1 => by
    have ih0 := span_Count.mono_l k
    · intro y0 y1 y2 y3
      unfold span_Count.l0
      repeat' first
      | (with_reducible exact ih0 _ _ _ _)
      | (with_reducible exact span_Valid.mono _ _)
      | (with_reducible exact LeO.refl _)
      | (with_reducible exact LeO.none _)
      | (with_reducible refine LeO.ite ?_ ?_)
      | (with_reducible refine LeO.bind ?_ (fun _ => ?_))
      | exact ih0 _ _ _ _
      | exact span_Valid.mono _ _
      | exact LeO.none _
      | refine LeO.ite ?_ ?_
      | refine LeO.bind ?_ (fun _ => ?_)
theorem span_Count.mono : ∀ a0 k, LeO (span_Count.f k a0) (span_Count.f (k + 1) a0) := by
  intro a0 k
  have ih0 := span_Count.mono_l k
  unfold span_Count.f
  repeat' first
      | (with_reducible exact ih0 _ _ _ _)
      | (with_reducible exact span_Valid.mono _ _)
      | (with_reducible exact LeO.refl _)
      | (with_reducible exact LeO.none _)
      | (with_reducible refine LeO.ite ?_ ?_)
      | (with_reducible refine LeO.bind ?_ (fun _ => ?_))
      | exact ih0 _ _ _ _
      | exact span_Valid.mono _ _
      | exact LeO.none _
      | refine LeO.ite ?_ ?_
      | refine LeO.bind ?_ (fun _ => ?_)
set_option maxHeartbeats 8000000 in
set_option maxRecDepth 100000 in
theorem span_Count.calls (k : Nat) (A0 : Option Addr) (c0 : Nat) (l0 : List (S30)) (r1 : Int) (r2 : Int) (w : World) (hr0 : Kd.C k30 w A0 l0.length l0) (hc0 : l0.length ≤ c0) (h : span_Count.f k l0 = some (r1, r2)) :
    Calls Try.prog 17 #[.slice A0 l0.length c0] w fun e w' => e = .returned (.tuple #[.int .i64 r1, .int .i64 r2]) ∧ Below w.heap.size w w' := by
  have hu30 := Try.underlying30
  have HR0 := Aside0.mk hr0
  have HC0 := Aside0.mk hc0
  clear hr0 hc0
  have HB := Aside0.mk (Below.refl w.heap.size w)
  have H : ((span_Valid.f k l0).bind fun t118 => (if t118 = true then (span_Count.l0 k 0 l0 (l0.length : Int) 0) else (some (0, 1)))) = some (r1, r2) := h
  clear h
  replace H := Option.bind_eq_some_iff.mp H
  obtain ⟨t118, A20, H⟩ := H
  replace H : (if t118 = true then (span_Count.l0 k 0 l0 (l0.length : Int) 0) else (some (0, 1))) = some (r1, r2) := H
  have A2 := Aside0.mk A20
  clear A20
  by_cases c3 : t118 = true
  · subst c3
    have H1 : (span_Count.l0 k 0 l0 (l0.length : Int) 0) = some (r1, r2) := by rw [if_pos rfl] at H; exact H
    clear H
    have H := H1
    clear H1
    have H' := Aside0.mk H
    clear H
    go_enter Try.func17, Try.ntmps17
    go_wp2_with (first | ((with_reducible refine gate_callee (f := 10) rfl ?_); refine goesL_ (some 8) rfl rfl Try.func10 (by kernel_rfl) rfl #[.slice A0 l0.length c0] rfl (by (try simp only [List.map_toArray, List.map_cons, List.map_nil]); first | done | rfl | (simp only [List.length_drop, List.length_take]; rfl)) ?_; (with_reducible refine (span_Valid.calls k _ _ l0 true _ ?side1 ?side2 A2.out).mono ?_); (case side1 => repeat (first | exact HR0.out | (with_reducible refine Kd.C_alloc ?_ _) | (with_reducible refine Kd.C_drewN ?_ _) | (with_reducible refine Kd.C_drew ?_))); (case side2 => exact HC0.out); rintro e w4 ⟨rfl, hb⟩; refine ⟨_, rfl, ?_⟩; have n0_ := Aside0.mk (below_step (by repeat (first | (with_reducible first | exact HB.out | apply below_alloc | apply pw_below_drewN | apply below_drew1) | exact HB.out)) hb); clear HB; have HB := n0_; clear n0_; (try clear hb); (try clear hb2); (try clear hk); (try clear hi)))
    go_loopg [4, 12] k (fun kq v4 v12 w' => ∃ (x4_1 : Int) (x12_1 : Int), v4 = .int .i64 x4_1 ∧ v12 = .int .i64 x12_1 ∧ Aside0 (span_Count.l0 kq x4_1 l0 (l0.length : Int) x12_1 = some (r1, r2)) ∧ Aside0 (kq ≤ k) ∧ Aside0 (Below w.heap.size w w'))
    case atStart => exact ⟨(0), (0), (by first | rfl | (simp; done) | (simp [*]; done)), (by first | rfl | (simp; done) | (simp [*]; done)), H', ⟨Nat.le_refl _⟩, ⟨by repeat (first | (with_reducible first | exact HB.out | apply below_alloc | apply pw_below_drewN | apply below_drew1) | exact HB.out)⟩⟩
    case round =>
      clear H'
      try clear c1
      try clear p2
      try clear c3
      obtain ⟨x4_1, x12_1, rfl, rfl, HA, HK1, HB⟩ := hrel
      cases gk with
      | zero => exact absurd HA.out (by simp [span_Count.l0])
      | succ k1 =>
        have H := HA.out
        clear HA
        simp only [span_Count.l0] at H
        by_cases c5 : x12_1 < (l0.length : Int)
        · rw [if_pos c5] at H
          have c5b0 : decide (x12_1 < (l0.length : Int)) = true := decide_eq_true c5
          clear c5
          by_cases c6 : 0 ≤ x12_1
          · rw [if_pos c6] at H
            have c6b0 : decide (0 ≤ x12_1) = true := decide_eq_true c6
            clear c6
            by_cases c7 : x12_1 < (l0.length : Int)
            · rw [if_pos c7] at H
              have c7b0 : decide (x12_1 < (l0.length : Int)) = true := decide_eq_true c7
              clear c7
              have H' := Aside0.mk H
              clear H
              have p119 : 0 ≤ (x12_1 : Int) := of_decide_eq_true (by first | (with_reducible assumption) | assumption)
              have q119 : x12_1 < (l0.length : Int) := of_decide_eq_true (by first | (with_reducible assumption) | assumption)
              obtain ⟨ad119, e119, hx119_0, hx119_1⟩ := at_T30 HR0.out x12_1 p119 q119
              cases e119
              replace hx119_0 := (HB.out.cell (World.block_lt_of_cell? w _ hx119_0)).trans hx119_0
              replace hx119_1 := (HB.out.cell (World.block_lt_of_cell? w _ hx119_1)).trans hx119_1
              replace p119 := eq_true p119
              replace q119 := eq_true q119
              go_wp2_with (first | ((with_reducible refine gate_dst (N := 6) rfl ?_); refine box_event ?hg (N := 6) ?hd (cs := #[.int .i64 0, .int .i64 0]) (t := 30) ?hr ?_; (case hd => rfl); (case hg => rfl); (case hr => first | (go_simp; done) | (go_simp; rfl)); intro gb120 hg w8 hbox hb; have n0_ := Aside0.mk (below_step (by repeat (first | (with_reducible first | exact HB.out | apply below_alloc | apply pw_below_drewN | apply below_drew1) | exact HB.out)) hb); have n1_ := Aside0.mk (hbox); have n2_ := Aside0.mk ((by rw [hg]; exact (below_size (by repeat (first | (with_reducible first | exact HB.out | apply below_alloc | apply pw_below_drewN | apply below_drew1) | exact HB.out))) : w.heap.size ≤ gb120)); have n3_ := Aside0.mk ((by rw [hg]; exact (below_size (by repeat (first | (with_reducible first | exact HB.out | apply below_alloc | apply pw_below_drewN | apply below_drew1) | exact HB.out))) : w.heap.size ≤ gb120)); clear HB; have HB := n0_; have BK120 := n1_; have GW120 := n2_; have GE120 := n3_; clear n0_ n1_ n2_ n3_; clear hb hbox hg; have hcz9_0 : w8.cell? ⟨gb120, 0, none⟩ = some (.int .i64 0) := (blk_cell BK120.out 0).trans rfl; have hcz9_1 : w8.cell? ⟨gb120, 1, none⟩ = some (.int .i64 0) := (blk_cell BK120.out 1).trans rfl; have hfz9_0 := blk_frozen BK120.out 0; have hfz9_1 := blk_frozen BK120.out 1))
              go_roundg k1
              case measure => have := HK1.out; omega
              case rel => exact ⟨(wrap64 (x4_1 + (wrap64 (((rd_T30 l0 x12_1).f1) - ((rd_T30 l0 x12_1).f0))))), (wrap64 (x12_1 + 1)), (by first | rfl | (simp; done) | (simp [*]; done)), (by first | rfl | (simp; done) | (simp [*]; done)), H', ⟨by have := HK1.out; omega⟩, ⟨by repeat (first | (with_reducible first | exact HB.out | apply below_alloc | apply pw_below_drewN | apply below_drew1 | refine below_set ?_ GE120.out) | exact HB.out)⟩⟩
            · rw [if_neg c7] at H
              exact absurd H (by simp)
          · rw [if_neg c6] at H
            exact absurd H (by simp)
        · rw [if_neg c5] at H
          have c5b0 : decide (x12_1 < (l0.length : Int)) = false := decide_eq_false c5
          clear c5
          simp only [Option.some.injEq, Prod.mk.injEq] at H
          obtain ⟨rfl, rfl⟩ := H
          go_wp2
          go_ret2
          exact ⟨by first | rfl | (simp [errW_none, errW_some] <;> rfl) | (simp [*, errW_none, errW_some] <;> rfl), by repeat (first | (with_reducible first | exact HB.out | apply below_alloc | apply pw_below_drewN | apply below_drew1) | exact HB.out)⟩
  · replace c3 := Bool.eq_false_iff.mpr c3
    subst c3
    have H1 : (some (0, 1)) = some (r1, r2) := by rw [if_neg (show ¬ (false = true) by decide)] at H; exact H
    clear H
    have H := H1
    clear H1
    simp only [Option.some.injEq, Prod.mk.injEq] at H
    obtain ⟨rfl, rfl⟩ := H
    go_enter Try.func17, Try.ntmps17
    go_wp2_with (first | ((with_reducible refine gate_callee (f := 10) rfl ?_); refine goesL_ (some 8) rfl rfl Try.func10 (by kernel_rfl) rfl #[.slice A0 l0.length c0] rfl (by (try simp only [List.map_toArray, List.map_cons, List.map_nil]); first | done | rfl | (simp only [List.length_drop, List.length_take]; rfl)) ?_; (with_reducible refine (span_Valid.calls k _ _ l0 false _ ?side1 ?side2 A2.out).mono ?_); (case side1 => repeat (first | exact HR0.out | (with_reducible refine Kd.C_alloc ?_ _) | (with_reducible refine Kd.C_drewN ?_ _) | (with_reducible refine Kd.C_drew ?_))); (case side2 => exact HC0.out); rintro e w10 ⟨rfl, hb⟩; refine ⟨_, rfl, ?_⟩; have n0_ := Aside0.mk (below_step (by repeat (first | (with_reducible first | exact HB.out | apply below_alloc | apply pw_below_drewN | apply below_drew1) | exact HB.out)) hb); clear HB; have HB := n0_; clear n0_; (try clear hb); (try clear hb2); (try clear hk); (try clear hi)))
    go_ret2
    exact ⟨by first | rfl | (simp [errW_none, errW_some] <;> rfl) | (simp [*, errW_none, errW_some] <;> rfl), by repeat (first | (with_reducible first | exact HB.out | apply below_alloc | apply pw_below_drewN | apply below_drew1) | exact HB.out)⟩

end Go.Proofs.Ytbfgblfhonpgaaa.X
