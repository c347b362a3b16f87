-- Written by a program of mine (wip/tools/xprint.py) over the kit's print.py: printed functions and hand-proved ones side by side.
import Derived.Test.YtbfgblfhonpgaaaXx0
import Derived.Test.YtbfgblfhonpgaaaXx3
namespace Go.Proofs.Ytbfgblfhonpgaaa.X
open Go.RowKit Go.Proofs.YtbfgblfhonpgaaaW.PrintWords Go.Proofs.YtbfgblfhonpgaaaW.PrintLast Go.Proofs.YtbfgblfhonpgaaaW.PrintMore
attribute [local go_sem] max2_int min2_int max_two min_two max_three min_three max_four min_four   -- for this text's walks alone
set_option linter.unusedVariables false
set_option linter.unusedSimpArgs false

/-! ### span_Has: function 24 -/
-- by hand: cohousing/span.Has
section
open Go.Sort (grow alloc_eq_grow grow_grow)
def enc30 (x : S30) : List Value := [.int .i64 x.f0, .int .i64 x.f1]
/-- Blocks laid and draws made, nothing else. -/
def Grew (W w' : World) : Prop := ∃ q os, w' = grow (W.drewN q) os
theorem Grew.refl (W : World) : Grew W W := ⟨0, #[], by unfold grow; simp [World.drewN]⟩
theorem Grew.trans {a b c : World} (h : Grew a b) (k : Grew b c) : Grew a c := by
  obtain ⟨q, os, rfl⟩ := h
  obtain ⟨p, os', rfl⟩ := k
  refine ⟨q + p, os ++ os', ?_⟩
  unfold grow World.drewN
  simp [Array.append_assoc, Nat.add_assoc]
theorem Grew.alloc {a b : World} (h : Grew a b) (o : Obj) : Grew a (b.alloc o) := h.trans ⟨0, #[o], by rw [alloc_eq_grow]; unfold grow World.drewN; simp⟩
theorem Grew.drewN {a b : World} (h : Grew a b) (n : Nat) : Grew a (b.drewN n) := h.trans ⟨n, #[], by unfold grow; simp [World.drewN]⟩
theorem Grew.drew {a b : World} (h : Grew a b) : Grew a b.drew := h.drewN 1
theorem Grew.cell {a b : World} (h : Grew a b) {p : Addr} {v : Value} (hc : a.cell? p = some v) : b.cell? p = some v := by
  obtain ⟨q, os, rfl⟩ := h
  exact (Go.Sort.cell?_grow (a.drewN q) os p (World.block_lt_of_cell? a p hc)).trans hc
theorem Grew.below {a b : World} (h : Grew a b) : Below a.heap.size a b := by
  obtain ⟨q, os, rfl⟩ := h
  refine ⟨rfl, rfl, rfl, ?_, fun k hk => ?_⟩
  · simp [grow, World.drewN]
  · exact Go.Sort.heap_grow_old (a.drewN q) os hk
set_option maxHeartbeats 1000000 in
theorem clo32 (x : S30) (W : World) : Calls Try.prog 32 #[.agg #[.int .i64 x.f0, .int .i64 x.f1]] W fun e w' => e = .returned (.int .i64 x.f0) ∧ Grew W w' := by
  go_enter Try.func32, Try.ntmps32
  go_wp2
  go_ret
  exact ⟨rfl, (Grew.refl _).alloc _⟩
set_option maxHeartbeats 4000000 in
set_option maxRecDepth 100000 in
theorem clo46 (x y : S30) (B : Nat) (W : World) (hc : W.cell? ⟨B, 0, none⟩ = some (.func (.func 32) #[] #[])) : Calls Try.prog 46 #[.agg #[.int .i64 x.f0, .int .i64 x.f1], .agg #[.int .i64 y.f0, .int .i64 y.f1], .pointer (some ⟨B, 0, none⟩)] W fun e w' => e = .returned (.int .i64 (Lib.compareInt x.f0 y.f0)) ∧ Grew W w' := by
  have hcon := fun W' => Try.cmp_Compare_int x.f0 y.f0 W'
  generalize Lib.compareInt x.f0 y.f0 = r at hcon ⊢
  have hcon2 := Lib.hid hcon
  clear hcon
  go_enter Try.func46, Try.ntmps46
  go_wp2_with fail
  obtain ⟨W2, hW2⟩ : ∃ w_ : World, w_ = (W.alloc (Obj.cells #[Value.int IntKind.i64 x.f0, Value.int IntKind.i64 x.f1] 30)).alloc (Obj.cells #[Value.int IntKind.i64 y.f0, Value.int IntKind.i64 y.f1] 30) := ⟨_, rfl⟩
  have hg0 : Grew W W2 := by rw [hW2]; exact ((Grew.refl _).alloc _).alloc _
  have hb := World.block_lt_of_cell? W _ hc
  have c0 : W2.cell? ⟨B, 0, none⟩ = some (.func (.func 32) #[] #[]) := hg0.cell hc
  have c1 : W2.cell? ⟨W.heap.size, 0, none⟩ = some (.int .i64 x.f0) := by rw [hW2]; go_simp
  have c2 : W2.cell? ⟨W.heap.size, 1, none⟩ = some (.int .i64 x.f1) := by rw [hW2]; go_simp
  have c3 : W2.cell? ⟨W.heap.size + 1, 0, none⟩ = some (.int .i64 y.f0) := by rw [hW2]; go_simp
  have c4 : W2.cell? ⟨W.heap.size + 1, 1, none⟩ = some (.int .i64 y.f1) := by rw [hW2]; go_simp
  rw [← hW2]
  clear hW2
  generalize W.heap.size = b1 at *
  have hgw : Grew W2 W2 := Grew.refl _
  go_region_held3 (fun w' => w'.cell? ⟨B, 0, none⟩ = some (.func (.func 32) #[] #[]) ∧ w'.cell? ⟨b1, 0, none⟩ = some (.int .i64 x.f0) ∧ w'.cell? ⟨b1, 1, none⟩ = some (.int .i64 x.f1) ∧ w'.cell? ⟨b1 + 1, 0, none⟩ = some (.int .i64 y.f0) ∧ w'.cell? ⟨b1 + 1, 1, none⟩ = some (.int .i64 y.f1))
    (go_keep)
    (first
      | (go_at_call 32; refine (clo32 _ _).mono ?_; rintro e w2 ⟨rfl, hg⟩; have hgw : Grew W2 w2 := Grew.trans (by first | exact hgw | exact hgw.drew | exact hgw.drewN _) hg; have d0 := hgw.cell c0; have d1 := hgw.cell c1; have d2 := hgw.cell c2; have d3 := hgw.cell c3; have d4 := hgw.cell c4)
      | (go_at_call 47; refine (hcon2.out _).mono ?_; rintro e w2 ⟨rfl, rfl⟩))
  all_goals (go_wp2; go_ret; exact ⟨rfl, hg0.trans (by first | exact hgw | exact hgw.drew | exact hgw.drewN _)⟩)
/-- A variable that holds what is left of a list that lay in memory at the world w0. -/
def Box (w0 W : World) (B : Nat) (l : List S30) : Prop := w0.heap.size ≤ B ∧ ∃ A c, W.heap[B]? = some (.cells #[.slice A l.length c] 22 (0, 0)) ∧ l.length ≤ c ∧ Kd.C k30 w0 A l.length l
def pastD (l : List S30) (day : Int) : List S30 := l.dropWhile (fun s => decide (s.f1 ≤ day))
def inD (l : List S30) (day : Int) : Bool := match pastD l day with
  | [] => false
  | s :: _ => decide (s.f0 ≤ day)
theorem Box.cell {w0 W : World} {B : Nat} {l : List S30} (h : Box w0 W B l) : ∃ A c, W.cell? ⟨B, 0, none⟩ = some (.slice A l.length c) ∧ W.frozen? ⟨B, 0, none⟩ = false ∧ l.length ≤ c ∧ Kd.C k30 w0 A l.length l := by
  obtain ⟨_, A, c, hb, h1, h2⟩ := h
  exact ⟨A, c, (blk_cell hb 0).trans rfl, blk_frozen hb 0, h1, h2⟩
theorem Box.keep {w0 W W' : World} {B : Nat} {l : List S30} (h : Box w0 W B l) (hk : W'.heap[B]? = W.heap[B]?) : Box w0 W' B l := by
  obtain ⟨h0, A, c, hb, h1, h2⟩ := h
  exact ⟨h0, A, c, hk.trans hb, h1, h2⟩
theorem Box.drewN {w0 W : World} {B : Nat} {l : List S30} (h : Box w0 W B l) (n : Nat) : Box w0 (W.drewN n) B l := h
theorem Box.put {w0 W : World} {B : Nat} {l : List S30} (h : Box w0 W B l) (l' : List S30) (A : Option Addr) (c : Nat) (h1 : l'.length ≤ c) (h2 : Kd.C k30 w0 A l'.length l') (n : Nat) (hn : n = l'.length) : Box w0 (W.setCell ⟨B, 0, none⟩ (.slice A n c)) B l' := by
  obtain ⟨h0, A0, c0, hb, _, _⟩ := h
  subst hn
  refine ⟨h0, A, c, ?_, h1, h2⟩
  simp only [World.setCell]
  obtain ⟨hlt, e⟩ := Array.getElem?_eq_some_iff.mp hb
  rw [Array.getElem?_modify]
  simp [hlt, e]
theorem grown_set {w W : World} {B : Nat} (h : w.grownBy W (some B)) (v : Value) : w.grownBy (W.setCell ⟨B, 0, none⟩ v) (some B) := by
  refine ⟨h.os, h.tape, h.output, by simp [h.size], fun k hk hne => ?_⟩
  rw [← h.block k hk hne]
  simp only [World.setCell]
  rw [Array.getElem?_modify]
  rw [if_neg (fun e => hne (by rw [e]))]
theorem grown_drewN {w W : World} {B : Option Nat} (h : w.grownBy W B) (n : Nat) : w.grownBy (W.drewN n) B := ⟨h.os, h.tape, h.output, h.size, h.block⟩
theorem grown_drew {w W : World} {B : Option Nat} (h : w.grownBy W B) : w.grownBy W.drew B := ⟨h.os, h.tape, h.output, h.size, h.block⟩
theorem rd30_zero (s : S30) (r : List S30) : rd_T30 (s :: r) 0 = s := rfl
set_option maxHeartbeats 4000000 in
set_option maxRecDepth 100000 in
theorem clo64 (w0 W : World) (B : Nat) (l : List S30) (day : Int) (hB : Below w0.heap.size w0 W) (hx : Box w0 W B l) : Calls Try.prog 64 #[.int .i64 day, .pointer (some ⟨B, 0, none⟩)] W fun e w' => e = .returned (.bool (inD l day)) ∧ Box w0 w' B (pastD l day) ∧ W.grownBy w' (some B) := by
  have hu30 := Try.underlying30
  have HX := Lib.hid hx
  have HW := Lib.hid hB
  clear hx hB
  go_enter Try.func64, Try.ntmps64
  go_wp2
  go_loopg [] (l.length) (fun kq w' => ∃ l' : List S30, Aside0 (l'.length = kq ∧ pastD l' day = pastD l day ∧ Box w0 w' B l' ∧ W.grownBy w' (some B)))
  case atStart => exact ⟨l, ⟨rfl, rfl, HX.out, World.grownBy.refl _ _⟩⟩
  case round =>
    obtain ⟨l', hl⟩ := hrel
    obtain ⟨h1, h2, h3, h4⟩ := hl.out
    clear hl HX
    subst h1
    have hWB : Below w0.heap.size w0 wr := HW.out.grown h4 HW.out.size (fun k e => by cases e; exact h3.1)
    have H3 := Lib.hid h3
    have H4 := Lib.hid h4
    obtain ⟨A, c, hc, hf, hlen, hC⟩ := h3.cell
    clear h3 h4
    cases l' with
    | nil =>
      clear hC
      go_wp2
      go_ret
      refine ⟨?_, ?_, H4.out⟩
      · unfold inD
        rw [← h2]
        rfl
      · rw [← h2]
        exact H3.out
    | cons s r =>
      obtain ⟨ad, e, x0, x1⟩ := at_T30 hC 0 (by omega) (by simp)
      subst e
      rw [rd30_zero] at x0 x1
      have y0 := (hWB.cell (World.block_lt_of_cell? w0 _ x0)).trans x0
      have y1 := (hWB.cell (World.block_lt_of_cell? w0 _ x1)).trans x1
      have ea : ad.add ((0 : Int).toNat * 2) = ad := by simp [Addr.add]
      rw [ea] at y0 y1
      clear ea x0 x1
      have HC := Lib.hid hC
      have HWB := Lib.hid hWB
      have H2 := Lib.hid h2
      clear hC hWB h2
      by_cases hd : s.f1 ≤ day
      · have hd1 : decide (s.f1 ≤ day) = true := decide_eq_true hd
        have hp : pastD (s :: r) day = pastD r day := by unfold pastD; rw [List.dropWhile_cons, hd1]; rfl
        have hlr : r.length + 1 ≤ c := hlen
        have hD := Lib.hid (Kd.C_drop (m := 1) (c := c) HC.out (by simp) hlen)
        go_wp2
        case inl =>
          have hc1 : c = 1 := by assumption
          subst hc1
          go_roundg r.length
          case measure => simp
          case rel => exact ⟨r, ⟨rfl, hp.symm.trans H2.out, H3.out.put r (some ad) 0 (by omega) (by have := hD.out; rw [if_pos rfl] at this; exact this) _ rfl, grown_set H4.out _⟩⟩
        case inr =>
          have hc1 : ¬ c = 1 := by assumption
          go_roundg r.length
          case measure => simp
          case rel => exact ⟨r, ⟨rfl, hp.symm.trans H2.out, H3.out.put r (some ⟨ad.block, ad.off + 2, none⟩) (c - 1) (by omega) (by have := hD.out; rw [if_neg hc1] at this; have e_ : (some ad : Option Addr).map (·.add (1 * k30.sz)) = some ⟨ad.block, ad.off + 2, none⟩ := (by show some (ad.add 2) = _; simp [Addr.add]); rw [e_] at this; exact this) _ rfl, grown_set H4.out _⟩⟩
      · have hd1 : decide (s.f1 ≤ day) = false := decide_eq_false hd
        have hp : pastD (s :: r) day = s :: r := by unfold pastD; rw [List.dropWhile_cons, hd1]; rfl
        by_cases hb : s.f0 ≤ day
        · have hb1 : decide (s.f0 ≤ day) = true := decide_eq_true hb
          go_wp2
          go_ret
          refine ⟨?_, ?_, H4.out⟩
          · unfold inD
            rw [← H2.out, hp]
            simp [hb1]
          · rw [← H2.out, hp]
            exact H3.out
        · have hb1 : decide (s.f0 ≤ day) = false := decide_eq_false hb
          go_wp2
          go_ret
          refine ⟨?_, ?_, H4.out⟩
          · unfold inD
            rw [← H2.out, hp]
            simp [hb1]
          · rw [← H2.out, hp]
            exact H3.out
theorem keep36 (x y : Bool) (W : World) : Calls Try.prog 36 #[.bool x, .bool y] W fun e w' => e = .returned (.bool (x && !y)) ∧ w' = W := by
  cases x <;> cases y <;> (go_enter Try.func36, Try.ntmps36; go_wp2; go_ret; exact ⟨rfl, rfl⟩)
theorem keep37 (x y : Bool) (W : World) : Calls Try.prog 37 #[.bool x, .bool y] W fun e w' => e = .returned (.bool (x || y)) ∧ w' = W := by
  cases x <;> cases y <;> (go_enter Try.func37, Try.ntmps37; go_wp2; go_ret; exact ⟨rfl, rfl⟩)
theorem keep38 (x y : Bool) (W : World) : Calls Try.prog 38 #[.bool x, .bool y] W fun e w' => e = .returned (.bool (x && y)) ∧ w' = W := by
  cases x <;> cases y <;> (go_enter Try.func38, Try.ntmps38; go_wp2; go_ret; exact ⟨rfl, rfl⟩)
theorem walk49 (A : Option Addr) (n c : Nat) (W : World) : Calls Try.prog 49 #[.slice A n c] W fun e w' => e = .returned (.func (.func 64) #[] #[.pointer (some ⟨W.heap.size, 0, none⟩)]) ∧ w' = W.alloc (.cells #[.slice A n c] 22) := by
  go_enter Try.func49, Try.ntmps49
  go_wp2
  go_ret
  exact ⟨rfl, rfl⟩
theorem by31 (W : World) : Calls Try.prog 31 #[.func (.func 32) #[] #[]] W fun e w' => e = .returned (.func (.func 46) #[] #[.pointer (some ⟨W.heap.size, 0, none⟩)]) ∧ w' = W.alloc (.cells #[.func (.func 32) #[] #[]] 51) := by
  go_enter Try.func31, Try.ntmps31
  go_wp2
  go_ret
  exact ⟨rfl, rfl⟩
/-- Has' closure. -/
theorem clo43 (s : S30) (B : Nat) (day : Int) (W : World) (hc : W.cell? ⟨B, 0, none⟩ = some (.int .i64 day)) : Calls Try.prog 43 #[.agg #[.int .i64 s.f0, .int .i64 s.f1], .pointer (some ⟨B, 0, none⟩)] W fun e w' => e = .returned (.bool (decide (s.f0 ≤ day) && decide (day < s.f1))) ∧ Below W.heap.size W w' := by
  have hBW : B < W.heap.size := World.block_lt_of_cell? W _ hc
  have hne : B ≠ W.heap.size := Nat.ne_of_lt hBW
  by_cases h1 : s.f0 ≤ day
  · have h1b : decide (s.f0 ≤ day) = true := decide_eq_true h1
    by_cases h2 : day < s.f1
    · have h2b : decide (day < s.f1) = true := decide_eq_true h2
      rw [show (decide (s.f0 ≤ day) && decide (day < s.f1)) = true by rw [h1b, h2b]; rfl]
      go_enter Try.func43, Try.ntmps43
      go_wp2
      go_ret
      exact ⟨rfl, below_alloc (Below.refl _ _) _⟩
    · have h2b : decide (day < s.f1) = false := decide_eq_false h2
      rw [show (decide (s.f0 ≤ day) && decide (day < s.f1)) = false by rw [h1b, h2b]; rfl]
      go_enter Try.func43, Try.ntmps43
      go_wp2
      go_ret
      exact ⟨rfl, below_alloc (Below.refl _ _) _⟩
  · have h1b : decide (s.f0 ≤ day) = false := decide_eq_false h1
    rw [show (decide (s.f0 ≤ day) && decide (day < s.f1)) = false by rw [h1b]; rfl]
    go_enter Try.func43, Try.ntmps43
    go_wp2
    go_ret
    exact ⟨rfl, below_alloc (Below.refl _ _) _⟩
instance inh30 : Inhabited S30 := ⟨z30⟩
theorem spot_none {w : World} {a : Addr} {v : Value} (h : w.cell? a = some v) : a.spot = none := by
  unfold World.cell? at h
  split at h
  · split at h
    · cases h
    · rename_i hs
      simpa using hs
  · cases h
theorem row30 {w : World} {A : Option Addr} {l : List S30} (h : Kd.C k30 w A l.length l) (hne : 0 < l.length) : ∃ b off, A = some ⟨b, off, none⟩ ∧ b < w.heap.size ∧ ∀ j, j < l.length → w.cell? ⟨b, off + j * 2, none⟩ = some (.int .i64 (l[j]!).f0) ∧ w.cell? ⟨b, off + j * 2 + 1, none⟩ = some (.int .i64 (l[j]!).f1) := by
  obtain ⟨ad, e, x0, _⟩ := at_T30 h 0 (by omega) (by omega)
  have ea : ad.add ((0 : Int).toNat * 2) = ad := by simp [Addr.add]
  rw [ea] at x0
  have hs := spot_none x0
  refine ⟨ad.block, ad.off, by rw [e, ← hs], World.block_lt_of_cell? w _ x0, ?_⟩
  intro j hj
  obtain ⟨ad2, e2, y0, y1⟩ := at_T30 h (j : Int) (by omega) (by omega)
  rw [e] at e2
  obtain rfl := Option.some.inj e2
  have eb : ad.add ((j : Int).toNat * 2) = ⟨ad.block, ad.off + j * 2, none⟩ := by
    rw [Int.toNat_natCast]
    unfold Addr.add
    split
    · rename_i h0
      cases ad
      simp_all
    · rfl
  rw [eb] at y0 y1
  have er : rd_T30 l (j : Int) = l[j]! := by
    unfold rd_T30
    rw [Int.toNat_natCast, List.getD_eq_getElem?_getD, List.getElem?_eq_getElem hj, getElem!_pos l j hj]
    rfl
  rw [er] at y0 y1
  exact ⟨y0, y1⟩
theorem enters43 : ∀ args w, (callFunc 43 args).run Try.prog w = .ok (.enter 43 args) w := enters_of Try.func43 (by kernel_rfl) rfl
def dayIn (day : Int) (s : S30) : Bool := decide (s.f0 ≤ day) && decide (day < s.f1)
theorem pred43 (day : Int) (B : Nat) (w : World) (hcell : w.cell? ⟨B, 0, none⟩ = some (.int .i64 day)) :
    PredBelow Try.prog 43 #[.pointer (some ⟨B, 0, none⟩)] (fun x => .agg (enc30 x).toArray) (dayIn day) w := fun W x hb =>
  (clo43 x B day W ((hb.cell (p := ⟨B, 0, none⟩) (World.block_lt_of_cell? w _ hcell)).trans hcell)).mono fun e w' h => ⟨h.1, below_step hb h.2⟩
set_option maxHeartbeats 1000000 in
theorem any_none (A : Option Addr) (c : Nat) (cb : Array Value) (W : World) : Calls Try.prog 42 #[.slice A 0 c, .func (.func 43) #[] cb] W fun e w' => e = .returned (.bool false) ∧ Below W.heap.size W w' := by
  have hidx : ∀ W, Calls Try.prog 50 #[.slice A 0 c, .func (.func 43) #[] cb] W fun e w' => e = .returned (.int .i64 (-1)) ∧ Below W.heap.size W w' := by
    intro W
    go_enter Try.func50, Try.ntmps50
    go_wp2
    refine wp_loop_rounds 1 ?_
    rw [rounds_succ]
    go_wp2
    all_goals (go_ret; exact ⟨rfl, by repeat (first | exact Below.refl _ _ | apply pw_below_drewN | apply below_drew1)⟩)
  have H := Lib.hid hidx
  clear hidx
  go_enter Try.func42, Try.ntmps42
  go_wp2_with (go_at_call 50; refine (H.out _).mono ?_; rintro e w' ⟨rfl, hb⟩)
  go_ret
  exact ⟨rfl, hb⟩
set_option maxHeartbeats 1000000 in
theorem any_ok (day : Int) (B : Nat) (A : Option Addr) (c : Nat) (l : List S30) (W : World) (hC : Kd.C k30 W A l.length l) (hcell : W.cell? ⟨B, 0, none⟩ = some (.int .i64 day)) :
    Calls Try.prog 42 #[.slice A l.length c, .func (.func 43) #[] #[.pointer (some ⟨B, 0, none⟩)]] W fun e w' => e = .returned (.bool (l.any (dayIn day))) ∧ Below W.heap.size W w' := by
  cases hl : l with
  | nil => exact any_none A c _ W
  | cons s r =>
    rw [← hl]
    obtain ⟨b, off, e, hb, hc⟩ := row30 hC (by rw [hl]; simp)
    subst e
    have hbig : l.length ≤ 9223372036854775807 := hC.2.1
    have hcon := AnyQ.slices_ContainsFunc Try.layAny 2 Try.isAgg30 Try.sizeOf30 enc30 (fun _ => rfl) (dayIn day) 43 #[.pointer (some ⟨B, 0, none⟩)] enters43 b off l.length c l W (pred43 day B W hcell) (Nat.le_refl _) hbig hb (fun j hj i v hi => by
      have h1 := hc j hj
      generalize l[j]! = y at hi h1
      match i, hi with
      | 0, hi => simp [enc30] at hi; rw [← hi]; exact h1.1
      | 1, hi => simp [enc30] at hi; rw [← hi]; exact h1.2
      | i + 2, hi => simp [enc30] at hi)
    rw [List.take_length] at hcon
    exact hcon
def span_Has.f (k : Nat) (l0 : List S30) (a1 : Int) : Option (Bool × Int) := (span_Valid.f k l0).bind fun t => (if t = true then (some (l0.any (dayIn a1), 0)) else (some (false, 1)))
theorem span_Has.mono : ∀ l0 a1 k, LeO (span_Has.f k l0 a1) (span_Has.f (k + 1) l0 a1) := by
  intro l0 a1 k
  unfold span_Has.f
  exact LeO.bind (span_Valid.mono l0 k) (fun _ => LeO.refl _)
set_option maxHeartbeats 4000000 in
set_option maxRecDepth 100000 in
theorem span_Has.calls (k : Nat) (A0 : Option Addr) (c0 : Nat) (l0 : List S30) (a1 : Int) (r1 : Bool) (r2 : Int) (w : World) (hr0 : Kd.C k30 w A0 l0.length l0) (hc0 : l0.length ≤ c0) (h : span_Has.f k l0 a1 = some (r1, r2)) :
    Calls Try.prog 24 #[.slice A0 l0.length c0, .int .i64 a1] w fun e w' => e = .returned (.tuple #[.bool r1, .int .i64 r2]) ∧ Below w.heap.size w w' := by
  unfold span_Has.f at h
  obtain ⟨t, hv, h⟩ := Option.bind_eq_some_iff.mp h
  have HV := Lib.hid hv
  have HR := Lib.hid hr0
  have HC := Lib.hid hc0
  clear hv hr0 hc0
  cases t with
  | true =>
    rw [if_pos rfl] at h
    simp only [Option.some.injEq, Prod.mk.injEq] at h
    obtain ⟨rfl, rfl⟩ := h
    generalize hany : l0.any (dayIn a1) = b
    have HANY := Lib.hid hany
    clear hany
    go_enter Try.func24, Try.ntmps24
    go_wp2_with (first
      | (go_at_call 10; refine (span_Valid.calls k A0 c0 l0 true _ (Kd.C_alloc HR.out _) HC.out HV.out).mono ?_; rintro e w2 ⟨rfl, hb⟩; have hcell : w2.cell? ⟨w.heap.size, 0, none⟩ = some (.int .i64 a1) := (pw_cell_below hb (by go_simp)); have hb2 : Below w.heap.size w w2 := below_step (below_alloc (Below.refl _ _) _) hb; have HCELL := Lib.hid hcell; have HB := Lib.hid hb2; clear hcell hb2 hb)
      | (go_at_call 42; refine (any_ok a1 w.heap.size A0 c0 l0 _ (by first | exact Kd.C_below HR.out HB.out | exact Kd.C_drew (Kd.C_below HR.out HB.out)) HCELL.out).mono ?_; rintro e w3 ⟨rfl, hb3⟩; have hb4 : Below w.heap.size w w3 := below_step HB.out hb3; have HB4 := Lib.hid hb4; clear hb3 hb4))
    go_ret2
    exact ⟨by first | rfl | (rw [HANY.out]; rfl), by repeat (first | exact HB4.out | apply pw_below_drewN | apply below_drew1)⟩
  | false =>
    rw [if_neg (by decide)] at h
    simp only [Option.some.injEq, Prod.mk.injEq] at h
    obtain ⟨rfl, rfl⟩ := h
    go_enter Try.func24, Try.ntmps24
    go_wp2_with (first
      | (go_at_call 10; refine (span_Valid.calls k A0 c0 l0 false _ (Kd.C_alloc HR.out _) HC.out HV.out).mono ?_; rintro e w2 ⟨rfl, hb⟩; have hb2 : Below w.heap.size w w2 := below_step (below_alloc (Below.refl _ _) _) hb; have HB := Lib.hid hb2; clear hb2 hb))
    go_ret2
    exact ⟨rfl, by repeat (first | exact HB.out | apply pw_below_drewN | apply below_drew1)⟩
end

end Go.Proofs.Ytbfgblfhonpgaaa.X
