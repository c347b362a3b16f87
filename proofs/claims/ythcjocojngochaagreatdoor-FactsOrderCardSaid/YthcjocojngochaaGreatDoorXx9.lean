-- Written by a program of mine (wip/tools/xprint.py) over the kit's print.py: printed functions and hand-proved ones side by side.
import Derived.Test.YthcjocojngochaaGreatDoorXx0
import Derived.Test.YthcjocojngochaaGreatDoorXx2
import Derived.Test.YthcjocojngochaaGreatDoorXx3
import Derived.Test.YthcjocojngochaaGreatDoorXx4
import Derived.Test.YthcjocojngochaaGreatDoorXx8
namespace Go.Proofs.YthcjocojngochaaGreatDoor.X
open Go.RowKit Go.Proofs.YthcjocojngochaaGreatDoorW.PrintWords Go.Proofs.YthcjocojngochaaGreatDoorW.PrintLast Go.Proofs.YthcjocojngochaaGreatDoorW.PrintMore
attribute [local go_sem] max2_int min2_int max_two min_two max_three min_three max_four min_four   -- for this text's walks alone
set_option linter.unusedVariables false
set_option linter.unusedSimpArgs false

/-! ### span_walk: function 93 -/
-- by hand: cohousing/span.walk
section
open Go.Sort (grow alloc_eq_grow grow_grow)
def enc30 (x : S24) : List Value := [.int .i64 x.f0, .int .i64 x.f1]
/-- Blocks laid and draws made, nothing else. -/
def Grew (W w' : World) : Prop := ∃ q os, w' = grow (W.drewN q) os
theorem Grew.refl (W : World) : Grew W W := ⟨0, #[], by unfold grow; simp [World.drewN]⟩
theorem Grew.trans {a b c : World} (h : Grew a b) (k : Grew b c) : Grew a c := by
  obtain ⟨q, os, rfl⟩ := h
  obtain ⟨p, os', rfl⟩ := k
  refine ⟨q + p, os ++ os', ?_⟩
  unfold grow World.drewN
  simp [Array.append_assoc, Nat.add_assoc]
theorem Grew.alloc {a b : World} (h : Grew a b) (o : Obj) : Grew a (b.alloc o) := h.trans ⟨0, #[o], by rw [alloc_eq_grow]; unfold grow World.drewN; simp⟩
theorem Grew.drewN {a b : World} (h : Grew a b) (n : Nat) : Grew a (b.drewN n) := h.trans ⟨n, #[], by unfold grow; simp [World.drewN]⟩
theorem Grew.drew {a b : World} (h : Grew a b) : Grew a b.drew := h.drewN 1
theorem Grew.cell {a b : World} (h : Grew a b) {p : Addr} {v : Value} (hc : a.cell? p = some v) : b.cell? p = some v := by
  obtain ⟨q, os, rfl⟩ := h
  exact (Go.Sort.cell?_grow (a.drewN q) os p (World.block_lt_of_cell? a p hc)).trans hc
theorem Grew.below {a b : World} (h : Grew a b) : Below a.heap.size a b := by
  obtain ⟨q, os, rfl⟩ := h
  refine ⟨rfl, rfl, rfl, ?_, fun k hk => ?_⟩
  · simp [grow, World.drewN]
  · exact Go.Sort.heap_grow_old (a.drewN q) os hk
set_option maxHeartbeats 1000000 in
theorem clo32 (x : S24) (W : World) : Calls Tryz.prog 56 #[.agg #[.int .i64 x.f0, .int .i64 x.f1]] W fun e w' => e = .returned (.int .i64 x.f0) ∧ Grew W w' := by
  go_enter Tryz.func56, Tryz.ntmps56
  go_wp2
  go_ret
  exact ⟨rfl, (Grew.refl _).alloc _⟩
set_option maxHeartbeats 4000000 in
set_option maxRecDepth 100000 in
theorem clo46 (x y : S24) (B : Nat) (W : World) (hc : W.cell? ⟨B, 0, none⟩ = some (.func (.func 56) #[] #[])) : Calls Tryz.prog 90 #[.agg #[.int .i64 x.f0, .int .i64 x.f1], .agg #[.int .i64 y.f0, .int .i64 y.f1], .pointer (some ⟨B, 0, none⟩)] W fun e w' => e = .returned (.int .i64 (Lib.compareInt x.f0 y.f0)) ∧ Grew W w' := by
  have hcon := fun W' => Tryz.cmp_Compare_int x.f0 y.f0 W'
  generalize Lib.compareInt x.f0 y.f0 = r at hcon ⊢
  have hcon2 := Lib.hid hcon
  clear hcon
  go_enter Tryz.func90, Tryz.ntmps90
  go_wp2_with fail
  obtain ⟨W2, hW2⟩ : ∃ w_ : World, w_ = (W.alloc (Obj.cells #[Value.int IntKind.i64 x.f0, Value.int IntKind.i64 x.f1] 24)).alloc (Obj.cells #[Value.int IntKind.i64 y.f0, Value.int IntKind.i64 y.f1] 24) := ⟨_, rfl⟩
  have hg0 : Grew W W2 := by rw [hW2]; exact ((Grew.refl _).alloc _).alloc _
  have hb := World.block_lt_of_cell? W _ hc
  have c0 : W2.cell? ⟨B, 0, none⟩ = some (.func (.func 56) #[] #[]) := hg0.cell hc
  have c1 : W2.cell? ⟨W.heap.size, 0, none⟩ = some (.int .i64 x.f0) := by rw [hW2]; go_simp
  have c2 : W2.cell? ⟨W.heap.size, 1, none⟩ = some (.int .i64 x.f1) := by rw [hW2]; go_simp
  have c3 : W2.cell? ⟨W.heap.size + 1, 0, none⟩ = some (.int .i64 y.f0) := by rw [hW2]; go_simp
  have c4 : W2.cell? ⟨W.heap.size + 1, 1, none⟩ = some (.int .i64 y.f1) := by rw [hW2]; go_simp
  rw [← hW2]
  clear hW2
  generalize W.heap.size = b1 at *
  have hgw : Grew W2 W2 := Grew.refl _
  go_region_held3 (fun w' => w'.cell? ⟨B, 0, none⟩ = some (.func (.func 56) #[] #[]) ∧ w'.cell? ⟨b1, 0, none⟩ = some (.int .i64 x.f0) ∧ w'.cell? ⟨b1, 1, none⟩ = some (.int .i64 x.f1) ∧ w'.cell? ⟨b1 + 1, 0, none⟩ = some (.int .i64 y.f0) ∧ w'.cell? ⟨b1 + 1, 1, none⟩ = some (.int .i64 y.f1))
    (go_keep)
    (first
      | (go_at_call 56; refine (clo32 _ _).mono ?_; rintro e w2 ⟨rfl, hg⟩; have hgw : Grew W2 w2 := Grew.trans (by first | exact hgw | exact hgw.drew | exact hgw.drewN _) hg; have d0 := hgw.cell c0; have d1 := hgw.cell c1; have d2 := hgw.cell c2; have d3 := hgw.cell c3; have d4 := hgw.cell c4)
      | (go_at_call 91; refine (hcon2.out _).mono ?_; rintro e w2 ⟨rfl, rfl⟩))
  all_goals (go_wp2; go_ret; exact ⟨rfl, hg0.trans (by first | exact hgw | exact hgw.drew | exact hgw.drewN _)⟩)
/-- A variable that holds what is left of a list that lay in memory at the world w0. -/
def Box (w0 W : World) (B : Nat) (l : List S24) : Prop := w0.heap.size ≤ B ∧ ∃ A c, W.heap[B]? = some (.cells #[.slice A l.length c] 33 (0, 0)) ∧ l.length ≤ c ∧ Kd.C k24 w0 A l.length l
def pastD (l : List S24) (day : Int) : List S24 := l.dropWhile (fun s => decide (s.f1 ≤ day))
def inD (l : List S24) (day : Int) : Bool := match pastD l day with
  | [] => false
  | s :: _ => decide (s.f0 ≤ day)
theorem Box.cell {w0 W : World} {B : Nat} {l : List S24} (h : Box w0 W B l) : ∃ A c, W.cell? ⟨B, 0, none⟩ = some (.slice A l.length c) ∧ W.frozen? ⟨B, 0, none⟩ = false ∧ l.length ≤ c ∧ Kd.C k24 w0 A l.length l := by
  obtain ⟨_, A, c, hb, h1, h2⟩ := h
  exact ⟨A, c, (blk_cell hb 0).trans rfl, blk_frozen hb 0, h1, h2⟩
theorem Box.keep {w0 W W' : World} {B : Nat} {l : List S24} (h : Box w0 W B l) (hk : W'.heap[B]? = W.heap[B]?) : Box w0 W' B l := by
  obtain ⟨h0, A, c, hb, h1, h2⟩ := h
  exact ⟨h0, A, c, hk.trans hb, h1, h2⟩
theorem Box.drewN {w0 W : World} {B : Nat} {l : List S24} (h : Box w0 W B l) (n : Nat) : Box w0 (W.drewN n) B l := h
theorem Box.put {w0 W : World} {B : Nat} {l : List S24} (h : Box w0 W B l) (l' : List S24) (A : Option Addr) (c : Nat) (h1 : l'.length ≤ c) (h2 : Kd.C k24 w0 A l'.length l') (n : Nat) (hn : n = l'.length) : Box w0 (W.setCell ⟨B, 0, none⟩ (.slice A n c)) B l' := by
  obtain ⟨h0, A0, c0, hb, _, _⟩ := h
  subst hn
  refine ⟨h0, A, c, ?_, h1, h2⟩
  simp only [World.setCell]
  obtain ⟨hlt, e⟩ := Array.getElem?_eq_some_iff.mp hb
  rw [Array.getElem?_modify]
  simp [hlt, e]
theorem grown_set {w W : World} {B : Nat} (h : w.grownBy W (some B)) (v : Value) : w.grownBy (W.setCell ⟨B, 0, none⟩ v) (some B) := by
  refine ⟨h.os, h.tape, h.output, by simp [h.size], fun k hk hne => ?_⟩
  rw [← h.block k hk hne]
  simp only [World.setCell]
  rw [Array.getElem?_modify]
  rw [if_neg (fun e => hne (by rw [e]))]
theorem grown_drewN {w W : World} {B : Option Nat} (h : w.grownBy W B) (n : Nat) : w.grownBy (W.drewN n) B := ⟨h.os, h.tape, h.output, h.size, h.block⟩
theorem grown_drew {w W : World} {B : Option Nat} (h : w.grownBy W B) : w.grownBy W.drew B := ⟨h.os, h.tape, h.output, h.size, h.block⟩
theorem rd30_zero (s : S24) (r : List S24) : rd_T24 (s :: r) 0 = s := rfl
set_option maxHeartbeats 4000000 in
set_option maxRecDepth 100000 in
theorem clo64 (w0 W : World) (B : Nat) (l : List S24) (day : Int) (hB : Below w0.heap.size w0 W) (hx : Box w0 W B l) : Calls Tryz.prog 122 #[.int .i64 day, .pointer (some ⟨B, 0, none⟩)] W fun e w' => e = .returned (.bool (inD l day)) ∧ Box w0 w' B (pastD l day) ∧ W.grownBy w' (some B) := by
  have hu30 := Tryz.underlying24
  have HX := Lib.hid hx
  have HW := Lib.hid hB
  clear hx hB
  go_enter Tryz.func122, Tryz.ntmps122
  go_wp2
  go_loopg [] (l.length) (fun kq w' => ∃ l' : List S24, Aside0 (l'.length = kq ∧ pastD l' day = pastD l day ∧ Box w0 w' B l' ∧ W.grownBy w' (some B)))
  case atStart => exact ⟨l, ⟨rfl, rfl, HX.out, World.grownBy.refl _ _⟩⟩
  case round =>
    obtain ⟨l', hl⟩ := hrel
    obtain ⟨h1, h2, h3, h4⟩ := hl.out
    clear hl HX
    subst h1
    have hWB : Below w0.heap.size w0 wr := HW.out.grown h4 HW.out.size (fun k e => by cases e; exact h3.1)
    have H3 := Lib.hid h3
    have H4 := Lib.hid h4
    obtain ⟨A, c, hc, hf, hlen, hC⟩ := h3.cell
    clear h3 h4
    cases l' with
    | nil =>
      clear hC
      go_wp2
      go_ret
      refine ⟨?_, ?_, H4.out⟩
      · unfold inD
        rw [← h2]
        rfl
      · rw [← h2]
        exact H3.out
    | cons s r =>
      obtain ⟨ad, e, x0, x1⟩ := at_T24 hC 0 (by omega) (by simp)
      subst e
      rw [rd30_zero] at x0 x1
      have y0 := (hWB.cell (World.block_lt_of_cell? w0 _ x0)).trans x0
      have y1 := (hWB.cell (World.block_lt_of_cell? w0 _ x1)).trans x1
      have ea : ad.add ((0 : Int).toNat * 2) = ad := by simp [Addr.add]
      rw [ea] at y0 y1
      clear ea x0 x1
      have HC := Lib.hid hC
      have HWB := Lib.hid hWB
      have H2 := Lib.hid h2
      clear hC hWB h2
      by_cases hd : s.f1 ≤ day
      · have hd1 : decide (s.f1 ≤ day) = true := decide_eq_true hd
        have hp : pastD (s :: r) day = pastD r day := by unfold pastD; rw [List.dropWhile_cons, hd1]; rfl
        have hlr : r.length + 1 ≤ c := hlen
        have hD := Lib.hid (Kd.C_drop (m := 1) (c := c) HC.out (by simp) hlen)
        go_wp2
        case inl =>
          have hc1 : c = 1 := by assumption
          subst hc1
          go_roundg r.length
          case measure => simp
          case rel => exact ⟨r, ⟨rfl, hp.symm.trans H2.out, H3.out.put r (some ad) 0 (by omega) (by have := hD.out; rw [if_pos rfl] at this; exact this) _ rfl, grown_set H4.out _⟩⟩
        case inr =>
          have hc1 : ¬ c = 1 := by assumption
          go_roundg r.length
          case measure => simp
          case rel => exact ⟨r, ⟨rfl, hp.symm.trans H2.out, H3.out.put r (some ⟨ad.block, ad.off + 2, none⟩) (c - 1) (by omega) (by have := hD.out; rw [if_neg hc1] at this; have e_ : (some ad : Option Addr).map (·.add (1 * k24.sz)) = some ⟨ad.block, ad.off + 2, none⟩ := (by show some (ad.add 2) = _; simp [Addr.add]); rw [e_] at this; exact this) _ rfl, grown_set H4.out _⟩⟩
      · have hd1 : decide (s.f1 ≤ day) = false := decide_eq_false hd
        have hp : pastD (s :: r) day = s :: r := by unfold pastD; rw [List.dropWhile_cons, hd1]; rfl
        by_cases hb : s.f0 ≤ day
        · have hb1 : decide (s.f0 ≤ day) = true := decide_eq_true hb
          go_wp2
          go_ret
          refine ⟨?_, ?_, H4.out⟩
          · unfold inD
            rw [← H2.out, hp]
            simp [hb1]
          · rw [← H2.out, hp]
            exact H3.out
        · have hb1 : decide (s.f0 ≤ day) = false := decide_eq_false hb
          go_wp2
          go_ret
          refine ⟨?_, ?_, H4.out⟩
          · unfold inD
            rw [← H2.out, hp]
            simp [hb1]
          · rw [← H2.out, hp]
            exact H3.out
theorem walk49 (A : Option Addr) (n c : Nat) (W : World) : Calls Tryz.prog 93 #[.slice A n c] W fun e w' => e = .returned (.func (.func 122) #[] #[.pointer (some ⟨W.heap.size, 0, none⟩)]) ∧ w' = W.alloc (.cells #[.slice A n c] 33) := by
  go_enter Tryz.func93, Tryz.ntmps93
  go_wp2
  go_ret
  exact ⟨rfl, rfl⟩

theorem by31 (W : World) : Calls Tryz.prog 55 #[.func (.func 56) #[] #[]] W fun e w' => e = .returned (.func (.func 90) #[] #[.pointer (some ⟨W.heap.size, 0, none⟩)]) ∧ w' = W.alloc (.cells #[.func (.func 56) #[] #[]] 79) := by
  go_enter Tryz.func55, Tryz.ntmps55
  go_wp2
  go_ret
  exact ⟨rfl, rfl⟩

instance inh30 : Inhabited S24 := ⟨z24⟩

def dayIn (day : Int) (s : S24) : Bool := decide (s.f0 ≤ day) && decide (day < s.f1)

theorem spot_none {w : World} {a : Addr} {v : Value} (h : w.cell? a = some v) : a.spot = none := by
  unfold World.cell? at h
  split at h
  · split at h
    · cases h
    · rename_i hs
      simpa using hs
  · cases h

theorem row30 {w : World} {A : Option Addr} {l : List S24} (h : Kd.C k24 w A l.length l) (hne : 0 < l.length) : ∃ b off, A = some ⟨b, off, none⟩ ∧ b < w.heap.size ∧ ∀ j, j < l.length → w.cell? ⟨b, off + j * 2, none⟩ = some (.int .i64 (l[j]!).f0) ∧ w.cell? ⟨b, off + j * 2 + 1, none⟩ = some (.int .i64 (l[j]!).f1) := by
  obtain ⟨ad, e, x0, _⟩ := at_T24 h 0 (by omega) (by omega)
  have ea : ad.add ((0 : Int).toNat * 2) = ad := by simp [Addr.add]
  rw [ea] at x0
  have hs := spot_none x0
  refine ⟨ad.block, ad.off, by rw [e, ← hs], World.block_lt_of_cell? w _ x0, ?_⟩
  intro j hj
  obtain ⟨ad2, e2, y0, y1⟩ := at_T24 h (j : Int) (by omega) (by omega)
  rw [e] at e2
  obtain rfl := Option.some.inj e2
  have eb : ad.add ((j : Int).toNat * 2) = ⟨ad.block, ad.off + j * 2, none⟩ := by
    rw [Int.toNat_natCast]
    unfold Addr.add
    split
    · rename_i h0
      cases ad
      simp_all
    · rfl
  rw [eb] at y0 y1
  have er : rd_T24 l (j : Int) = l[j]! := by
    unfold rd_T24
    rw [Int.toNat_natCast, List.getD_eq_getElem?_getD, List.getElem?_eq_getElem hj, getElem!_pos l j hj]
    rfl
  rw [er] at y0 y1
  exact ⟨y0, y1⟩

end

/-! ### facts_Valid: function 11 -/
-- by hand: cohousing/facts.Valid
section
def nameB (a : ByteArray) : Bool := (facts_isName.f a).getD false
def rightB (x : S26) : Bool := (decide (0 ≤ x.f2) && decide (x.f2 ≤ 1000000) && !(x.f5 && x.f2 != 0)) && (decide (1 ≤ x.f0) && decide (x.f0 ≤ 64)) && nameB x.f1 && (decide (0 ≤ x.f4) && decide (x.f4 ≤ 36524)) && (decide (0 ≤ x.f3.f0) && (decide (x.f3.f0 < x.f3.f1) && decide (x.f3.f1 ≤ 36525)))
def validB (l : List S26) : Bool := decide (l.length ≤ 4000) && l.all rightB
def facts_Valid.f (l0 : List S26) : Option Bool := if l0.length < 4398046511104 then some (validB l0) else none
instance : Inhabited S26 := ⟨z26⟩
def enc26 (x : S26) : List Value := [.int .i64 x.f0, .string x.f1, .int .i64 x.f2, .int .i64 x.f3.f0, .int .i64 x.f3.f1, .int .i64 x.f4, .bool x.f5]
theorem enc26_len (x : S26) : (enc26 x).length = 7 := rfl
abbrev vals26 (x : S26) : Array Value := #[.int .i64 x.f0, .string x.f1, .int .i64 x.f2, .int .i64 x.f3.f0, .int .i64 x.f3.f1, .int .i64 x.f4, .bool x.f5]
theorem home_f (n : Int) : facts_isHome.f n = some (decide (1 ≤ n) && decide (n ≤ 64)) := by
  unfold facts_isHome.f
  by_cases h : 1 ≤ n <;> simp [h]
theorem day_f (n : Int) : facts_isDay.f n = some (decide (0 ≤ n) && decide (n ≤ 36524)) := by
  unfold facts_isDay.f
  by_cases h : 0 ≤ n <;> simp [h]
theorem name_f (a : ByteArray) : facts_isName.f a = some (nameB a) := by
  unfold nameB
  obtain ⟨v, hv⟩ : ∃ v, facts_isName.f a = some v := by
    unfold facts_isName.f
    rw [show lexer_Lex.f a = some (lexF a) from rfl, Option.bind_some]
    split
    · split
      · rename_i h1
        split
        · split <;> exact ⟨_, rfl⟩
        · rename_i h2
          exact absurd (show 0 < ((lexF a).1.length : Int) by omega) h2
      · exact ⟨_, rfl⟩
    · exact ⟨_, rfl⟩
  rw [hv]
  rfl
theorem valid_one (a b : Int) : span_Valid.f 3 [⟨a, b⟩] = some (decide (0 ≤ a) && (decide (a < b) && decide (b ≤ 36525))) := by
  have hs : span_stretch.f a b = some (decide (0 ≤ a) && (decide (a < b) && decide (b ≤ 36525))) := by
    unfold span_stretch.f
    by_cases h1 : 0 ≤ a <;> by_cases h2 : a < b <;> simp [h1, h2]
  have hr : rd_T24 [⟨a, b⟩] 0 = ⟨a, b⟩ := rfl
  unfold span_Valid.f
  rw [span_Valid.l0]
  simp only [List.length_cons, List.length_nil, hr, hs, Option.bind_some]
  cases hv : (decide (0 ≤ a) && (decide (a < b) && decide (b ≤ 36525)))
  · simp
  · have hw : wrap64 (0 + 1) = 1 := by unfold wrap64; omega
    rw [hw, span_Valid.l0]
    simp
theorem right_f (x : S26) : facts_right.f 4 x.f0 x.f1 x.f2 x.f3.f0 x.f3.f1 x.f4 x.f5 = some (rightB x) := by
  unfold facts_right.f rightB
  have hj : ∀ b, facts_right.j0 4 b x.f0 x.f1 x.f2 x.f3.f0 x.f3.f1 x.f4 x.f5 = some (!b && (decide (1 ≤ x.f0) && decide (x.f0 ≤ 64)) && nameB x.f1 && (decide (0 ≤ x.f4) && decide (x.f4 ≤ 36524)) && (decide (0 ≤ x.f3.f0) && (decide (x.f3.f0 < x.f3.f1) && decide (x.f3.f1 ≤ 36525)))) := by
    intro b
    rw [facts_right.j0]
    cases b
    · simp only [home_f, name_f, day_f, valid_one, Option.bind_some]
      cases h1 : (decide (1 ≤ x.f0) && decide (x.f0 ≤ 64)) <;> cases h2 : nameB x.f1 <;> cases h3 : (decide (0 ≤ x.f4) && decide (x.f4 ≤ 36524)) <;> simp
    · simp
  rw [hj, hj, hj]
  by_cases h1 : x.f2 < 0
  · rw [if_pos h1, decide_eq_false (show ¬ 0 ≤ x.f2 by omega)]
    simp
  · rw [if_neg h1, decide_eq_true (show 0 ≤ x.f2 by omega)]
    by_cases h2 : x.f2 > 1000000
    · rw [if_pos h2, decide_eq_false (show ¬ x.f2 ≤ 1000000 by omega)]
      simp
    · rw [if_neg h2, decide_eq_true (show x.f2 ≤ 1000000 by omega)]
      cases x.f5 <;> simp
theorem rightC (x : S26) (W : World) : Calls Tryz.prog 34 #[.agg #[.int .i64 x.f0, .string x.f1, .int .i64 x.f2, .int .i64 x.f3.f0, .int .i64 x.f3.f1, .int .i64 x.f4, .bool x.f5]] W fun e w' => e = .returned (.bool (rightB x)) ∧ Below W.heap.size W w' :=
  facts_right.calls 4 _ _ _ _ _ _ _ _ W (right_f x)
section
open Go.Lib
theorem row26 {w : World} {A : Option Addr} {l : List S26} (h : Kd.C k26 w A l.length l) (hne : 0 < l.length) : ∃ b off, A = some ⟨b, off, none⟩ ∧ b < w.heap.size ∧ ∀ j, j < l.length → ∀ i v, (enc26 l[j]!)[i]? = some v → w.cell? ⟨b, off + j * 7 + i, none⟩ = some v := by
  obtain ⟨ad, e, x0, _⟩ := at_T26 h 0 (by omega) (by omega)
  have ea : ad.add ((0 : Int).toNat * 7) = ad := by simp [Addr.add]
  rw [ea] at x0
  have hs := spot_none x0
  refine ⟨ad.block, ad.off, by rw [e, ← hs], World.block_lt_of_cell? w _ x0, ?_⟩
  intro j hj
  obtain ⟨ad2, e2, y0, y1, y2, y3, y4, y5, y6⟩ := at_T26 h (j : Int) (by omega) (by omega)
  rw [e] at e2
  obtain rfl := Option.some.inj e2
  have eb : ad.add ((j : Int).toNat * 7) = ⟨ad.block, ad.off + j * 7, none⟩ := by
    rw [Int.toNat_natCast]
    unfold Addr.add
    split
    · rename_i h0
      cases ad
      simp_all
    · rfl
  rw [eb] at y0 y1 y2 y3 y4 y5 y6
  have er : rd_T26 l (j : Int) = l[j]! := by
    unfold rd_T26
    rw [Int.toNat_natCast, List.getD_eq_getElem?_getD, List.getElem?_eq_getElem hj, getElem!_pos l j hj]
    rfl
  rw [er] at y0 y1 y2 y3 y4 y5 y6
  generalize l[j]! = u at *
  intro i v hv
  have hi : i < 7 := (List.getElem?_eq_some_iff.mp hv).1
  have hc : i = 0 ∨ i = 1 ∨ i = 2 ∨ i = 3 ∨ i = 4 ∨ i = 5 ∨ i = 6 := by omega
  rcases hc with rfl | rfl | rfl | rfl | rfl | rfl | rfl <;> (simp [enc26] at hv; subst hv; first | exact y0 | exact y1 | exact y2 | exact y3 | exact y4 | exact y5 | exact y6)
set_option maxHeartbeats 1000000 in
theorem clo33 (x : S26) (W : World) : Calls Tryz.prog 33 #[.agg (vals26 x)] W fun e w' => e = .returned (.bool (!rightB x)) ∧ Below W.heap.size W w' := by
  go_enter Tryz.func33, Tryz.ntmps33
  go_wp2_with (go_at_call 34; refine (rightC _ _).mono ?_; rintro e w' ⟨rfl, hb⟩)
  go_ret
  exact ⟨rfl, (below_alloc (Below.refl _ _) _).trans (hb.mono (by simp))⟩
theorem idx63_none (A : Option Addr) (c g : Nat) (cb : Array Value) (W : World) : Calls Tryz.prog 63 #[.slice A 0 c, .func (.func g) #[] cb] W fun e w' => e = .returned (.int .i64 (-1)) ∧ w' = W := by
  go_enter Tryz.func63, Tryz.ntmps63
  go_wp2
  refine wp_loop_rounds 1 ?_
  rw [rounds_succ]
  go_wp2
  all_goals (go_ret; exact ⟨rfl, rfl⟩)
theorem cont32_none (A : Option Addr) (c g : Nat) (cb : Array Value) (W : World) : Calls Tryz.prog 32 #[.slice A 0 c, .func (.func g) #[] cb] W fun e w' => e = .returned (.bool false) ∧ w' = W := by
  go_enter Tryz.func32, Tryz.ntmps32
  go_wp2_with (go_at_call 63; refine (idx63_none A c g cb _).mono ?_; rintro e w' ⟨rfl, rfl⟩)
  go_ret
  exact ⟨rfl, rfl⟩
theorem cont32 (A : Option Addr) (c : Nat) (l : List S26) (W : World) (hC : Kd.C k26 W A l.length l) : Calls Tryz.prog 32 #[.slice A l.length c, .func (.func 33) #[] #[]] W fun e w' => e = .returned (.bool (l.any fun x => !rightB x)) ∧ Below W.heap.size W w' := by
  cases hl : l with
  | nil =>
    refine (cont32_none A c 33 #[] W).mono ?_
    rintro e w' ⟨rfl, rfl⟩
    exact ⟨rfl, Below.refl _ _⟩
  | cons s r =>
    rw [← hl]
    obtain ⟨b, off, e, hb, hc⟩ := row26 hC (by rw [hl]; simp)
    subst e
    have hcon := AnyQ.slices_ContainsFunc Tryz.layContR 7 Tryz.isAgg26 Tryz.sizeOf26 enc26 enc26_len (fun x => !rightB x) 33 #[] (enters_of Tryz.func33 (by kernel_rfl) rfl) b off l.length c l W (fun W' x hb' => (clo33 x W').mono fun e w' h => ⟨h.1, below_step hb' h.2⟩) (Nat.le_refl _) hC.2.1 hb hc
    rw [List.take_length] at hcon
    exact hcon
set_option maxHeartbeats 1000000 in
theorem valid11 (A0 : Option Addr) (c0 : Nat) (l0 : List S26) (w : World) (hr0 : Kd.C k26 w A0 l0.length l0) (hlen : l0.length < 4398046511104) :
    Calls Tryz.prog 11 #[.slice A0 l0.length c0] w fun e w' => e = .returned (.bool (decide (l0.length ≤ 4000) && l0.all rightB)) ∧ Below w.heap.size w w' := by
  have ha : (l0.any fun x => !rightB x) = !(l0.all rightB) := by simp [List.all_eq_not_any_not]
  have hcon := cont32 A0 c0 l0 w hr0
  rw [ha] at hcon
  have HC := Aside0.mk hcon
  clear hcon hr0
  by_cases hl : l0.length ≤ 4000
  · have hl2 : (l0.length : Int) ≤ 4000 := by omega
    go_enter Tryz.func11, Tryz.ntmps11
    go_wp2_with (go_at_call 32; refine HC.out.mono ?_; rintro e w' ⟨rfl, hb⟩)
    go_ret
    exact ⟨by simp [hl], hb⟩
  · have hl2 : ¬ (l0.length : Int) ≤ 4000 := by omega
    go_enter Tryz.func11, Tryz.ntmps11
    go_wp2
    go_ret
    exact ⟨by simp [hl], Below.refl _ _⟩
end

theorem facts_Valid.calls (A0 : Option Addr) (c0 : Nat) (l0 : List S26) (r : Bool) (w : World) (hr0 : Kd.C k26 w A0 l0.length l0) (hc0 : l0.length ≤ c0) (h : facts_Valid.f l0 = some r) :
    Calls Tryz.prog 11 #[.slice A0 l0.length c0] w fun e w' => e = .returned (.bool r) ∧ Below w.heap.size w w' := by
  unfold facts_Valid.f at h
  split at h
  · rename_i hlen
    obtain rfl := Option.some.inj h
    exact valid11 A0 c0 l0 w hr0 hlen
  · exact absurd h (by simp)
end

end Go.Proofs.YthcjocojngochaaGreatDoor.X
