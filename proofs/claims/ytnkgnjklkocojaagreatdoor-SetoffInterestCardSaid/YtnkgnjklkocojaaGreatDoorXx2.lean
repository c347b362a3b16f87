-- Written by a program of mine (wip/tools/xprint.py) over the kit's print.py: printed functions and hand-proved ones side by side.
import Derived.Test.YtnkgnjklkocojaaGreatDoorXx0
namespace Go.Proofs.YtnkgnjklkocojaaGreatDoor.X
open Go.RowKit Go.Proofs.YtnkgnjklkocojaaGreatDoorW.PrintWords Go.Proofs.YtnkgnjklkocojaaGreatDoorW.PrintLast Go.Proofs.YtnkgnjklkocojaaGreatDoorW.PrintMore
attribute [local go_sem] max2_int min2_int max_two min_two max_three min_three max_four min_four   -- for this text's walks alone
set_option linter.unusedVariables false
set_option linter.unusedSimpArgs false

/-! ### setoff_between: function 27 -/
def setoff_between.f (a0 : Int) (a1 : Int) (a2 : Int) : Option (Bool) := if a1 ≤ a0 then (some (decide (a0 ≤ a2))) else (some false)
set_option maxHeartbeats 8000000 in
set_option maxRecDepth 100000 in
theorem setoff_between.calls (a0 : Int) (a1 : Int) (a2 : Int) (r : Bool) (w : World) (h : setoff_between.f a0 a1 a2 = some r) :
    Calls Tryz.prog 27 #[.int .i64 a0, .int .i64 a1, .int .i64 a2] w fun e w' => e = .returned (.bool r) ∧ Drawn0 w w' := by
  have H : (if a1 ≤ a0 then (some (decide (a0 ≤ a2))) else (some false)) = some r := h
  clear h
  by_cases c4 : a1 ≤ a0
  · rw [if_pos c4] at H
    have c4b0 : decide (a1 ≤ a0) = true := decide_eq_true c4
    clear c4
    obtain rfl := Option.some.inj H
    go_enter Tryz.func27, Tryz.ntmps27
    go_wp2
    go_ret
    exact ⟨by first | rfl | (simp; done) | (simp [*]; done), by repeat (first | exact Drawn0.refl _ | apply Drawn0.step)⟩
  · rw [if_neg c4] at H
    have c4b0 : decide (a1 ≤ a0) = false := decide_eq_false c4
    clear c4
    obtain rfl := Option.some.inj H
    go_enter Tryz.func27, Tryz.ntmps27
    go_wp2
    go_ret
    exact ⟨by first | rfl | (simp; done) | (simp [*]; done), by repeat (first | exact Drawn0.refl _ | apply Drawn0.step)⟩

/-! ### setoff_Valid: function 12 -/
-- by hand: cohousing/setoff.Valid
section
open Go.Maps (Keyed int_keyed keyOf_int_mk setOf setOf_snoc IsMap)
def dOk (x : S39) : Bool := (decide (1 ≤ x.f0) && decide (x.f0 ≤ 1000000)) && (decide (1 ≤ x.f1) && decide (x.f1 ≤ 4)) && (decide (0 ≤ x.f2) && decide (x.f2 ≤ 36524)) && (decide (0 ≤ x.f3) && decide (x.f3 ≤ 1000000000))
def vD : List S39 → List Int → Bool
  | [], _ => true
  | x :: l, seen => if seen.contains x.f0 = true ∨ dOk x = false then false else vD l (seen ++ [x.f0])
def idsL (zs : List Int) : DataW Unit := setOf (.lit (.bool true)) (zs.map (Lit.int .i64))
theorem ids_isMap (zs : List Int) : IsMap (idsL zs) := by
  unfold idsL
  have : ∀ (acc : List Lit) (m : DataW Unit), IsMap m → IsMap (acc.foldl (fun m x => m.put x (.lit (.bool true))) m) := by
    intro acc
    induction acc with
    | nil => intro m h; exact h
    | cons x acc ih => intro m h; exact ih _ (h.put x _)
  exact this _ _ Maps.isMap_empty
theorem ids_snoc (zs : List Int) (z : Int) : idsL (zs ++ [z]) = (idsL zs).put (.int .i64 z) (.lit (.bool true)) := by
  unfold idsL
  rw [List.map_append, List.map_cons, List.map_nil, setOf_snoc]
theorem ids_at (z : Int) : ∀ n (zs : List Int), zs.length = n → (idsL zs).atKey (.int .i64 z) (.lit (.bool false)) = .lit (.bool (zs.contains z))
  | 0, zs, h => by
    obtain rfl := List.eq_nil_of_length_eq_zero h
    rfl
  | n + 1, zs, h => by
    obtain ⟨ys, y, rfl⟩ : ∃ ys y, zs = ys ++ [y] := ⟨zs.dropLast, zs.getLast (by intro e; subst e; simp at h), (List.dropLast_concat_getLast _).symm⟩
    rw [ids_snoc]
    by_cases e : z = y
    · subst e
      rw [Maps.atKey_put_same (ids_isMap ys) (by simp [WideAt.IsKeyLit])]
      simp
    · rw [Maps.atKey_put_other (by intro h2; injection h2 with _ h3; exact e h3), ids_at z n ys (by simpa using h)]
      simp [e]
theorem lookup_bool {P : Program} {k t e : TypeId} {w : World} {b n : Nat} {D : DataW Unit} (h : w.ownsMap P k (plainElem P e) b n D) (K : Keyed P k) (ht : P.underlying t = some (.map k e)) (he : P.underlying e = some .bool) (hz : (zeroValue e).run P w = .ok (.bool false) w)
    {key : Value} {kl : Lit} (hkey : keyOf P k key = some kl) (x : Bool) (hx : D.atKey kl (.lit (.bool false)) = .lit (.bool x)) : (Instr.lookup t (.map (some b)) key false).run P w = .ok (.bool x) w := by
  obtain ⟨v, ps, hrun, hv⟩ := h.lookup K ht hz (plainElem_bool he false) hkey
  rw [hx] at hv
  unfold plainElem at hv
  rw [he] at hv
  cases v with
  | bool y => simp at hv; rw [hv.1] at hrun; exact hrun
  | _ => simp at hv
theorem own_block {P : Program} {k : TypeId} {R : Value → Option (DataW Unit × List MemPlace)} {w w' : World} {b n : Nat} {D : DataW Unit} (h : w.ownsMap P k R b n D) (e : w'.heap[b]? = w.heap[b]?) : w'.ownsMap P k R b n D := by
  obtain ⟨es, c, h1, h2⟩ := h
  exact ⟨es, c, e.trans h1, h2⟩
theorem between_f (a b c : Int) : setoff_between.f a b c = some (decide (b ≤ a) && decide (a ≤ c)) := by
  unfold setoff_between.f
  by_cases h : b ≤ a
  · rw [if_pos h, decide_eq_true h, Bool.true_and]
  · rw [if_neg h, decide_eq_false h, Bool.false_and]
def inI (n : Int) : Bool := decide (-9223372036854775808 ≤ n) && decide (n ≤ 9223372036854775807)
theorem inI_iff {n : Int} : inI n = true ↔ -9223372036854775808 ≤ n ∧ n ≤ 9223372036854775807 := by unfold inI; simp
def setoff_Valid.f (l0 : List S39) : Option Bool := if l0.length < 4398046511104 ∧ l0.all (fun x => inI x.f0) = true then some (vD l0 [] && decide (l0.length ≤ 100)) else none
theorem intOf_i64So (z : Int) : intOf (Value.int .i64 z) = z := rfl
theorem meas_ltSo (n k : Nat) (h : k < n) : n - ((k + 1 : Nat) : Int).toNat < n - ((k : Nat) : Int).toNat := by simp only [Int.toNat_natCast]; omega
theorem wpList_lookup_own_bool {P : Program} (w : World) {ops : Array Oper} {rest : List Oper} {o : Oper} {a : Act} {Q : Exit → Act → World → Prop}
    (hg : o.guard = none) (m x : Operand) (t : TypeId) (hop : o.op = Op.lookup t m x false) (k e : TypeId) (K : Keyed P k) (ht : P.underlying t = some (.map k e)) (he : P.underlying e = some .bool) (hz : (zeroValue e).run P w = .ok (.bool false) w) (b n : Nat) (D : DataW Unit)
    (hm : a.eval m = .map (some b)) (hown : w.ownsMap P k (plainElem P e) b n D) (key : Value) (kl : Lit) (hx : a.eval x = key) (hkey : keyOf P k key = some kl) (y : Bool) (hy : D.atKey kl (.lit (.bool false)) = .lit (.bool y))
    (hK : wpList P ops Q rest (a.put o.dst (.bool y)) w) : wpList P ops Q (o :: rest) a w := by
  refine wpList_plain hg fun K' hK' => ?_
  have hrun := lookup_bool hown K ht he hz hkey y hy
  unfold Oper.wp
  simp [execOp, hop, hm, hx, hrun, Result.andThen]
  exact hK' _ _ hK
theorem law3 : Keyed Tryz.prog 3 := int_keyed Tryz.underlying3
theorem zero4 (w : World) : (zeroValue 4).run Tryz.prog w = .ok (.bool false) w := by kernel_rfl
theorem own_setc {P : Program} {k : TypeId} {R : Value → Option (DataW Unit × List MemPlace)} {w : World} {b n : Nat} {D : DataW Unit} (h : w.ownsMap P k R b n D) {g i : Nat} (v : Value) (hne : b ≠ g) : (w.setCell ⟨g, i, none⟩ v).ownsMap P k R b n D := h.setCell hne v
theorem own_drewN {P : Program} {k : TypeId} {R : Value → Option (DataW Unit × List MemPlace)} {w : World} {b n : Nat} {D : DataW Unit} (h : w.ownsMap P k R b n D) (m : Nat) : (w.drewN m).ownsMap P k R b n D := own_block h rfl
theorem vD_step (l : List S39) (k : Nat) (hk : k < l.length) : vD (l.drop k) ((l.take k).map (·.f0)) = if ((l.take k).map (·.f0)).contains (rd_T39 l (k : Int)).f0 = true ∨ dOk (rd_T39 l (k : Int)) = false then false else vD (l.drop (k + 1)) ((l.take (k + 1)).map (·.f0)) := by
  have e : rd_T39 l (k : Int) = l[k] := by simp [rd_T39, List.getD_eq_getElem?_getD, List.getElem?_eq_getElem hk]
  rw [e, List.drop_eq_getElem_cons hk, vD, List.take_succ_eq_append_getElem hk, List.map_append, List.map_cons, List.map_nil]
set_option maxHeartbeats 8000000 in
set_option maxRecDepth 100000 in
theorem setoff_Valid.calls (A0 : Option Addr) (c0 : Nat) (l0 : List S39) (r : Bool) (w : World) (hr0 : Kd.C k39 w A0 l0.length l0) (hc0 : l0.length ≤ c0) (h : setoff_Valid.f l0 = some r) :
    Calls Tryz.prog 12 #[.slice A0 l0.length c0] w fun e w' => e = .returned (.bool r) ∧ Below w.heap.size w w' := by
  have hu39 := Tryz.underlying39
  have hmm := @run_makeMap Tryz.prog
  have HR0 := Aside0.mk hr0
  have HC0 := Aside0.mk hc0
  clear hr0 hc0
  unfold setoff_Valid.f at h
  split at h
  case isFalse => exact absurd h (by simp)
  rename_i hlen
  have HL := Aside0.mk hlen.1
  have HW := Aside0.mk hlen.2
  obtain rfl := Option.some.inj h
  clear h hlen
  have HB := Aside0.mk (Below.refl w.heap.size w)
  go_enter Tryz.func12, Tryz.ntmps12
  go_wp2
  go_loopw [9] (fun v9 wr => ∃ k : Nat, k ≤ l0.length ∧ v9 = .int .i64 k ∧ Aside0 (vD (l0.drop k) ((l0.take k).map (·.f0)) = vD l0 []) ∧ Aside0 (wr.ownsMap Tryz.prog 3 (plainElem (H := Unit) Tryz.prog 4) w.heap.size k (idsL ((l0.take k).map (·.f0)))) ∧ Aside0 (Below w.heap.size w wr)) (fun v9 _ => l0.length - (intOf v9).toNat)
  case atStart => exact ⟨0, Nat.zero_le _, rfl, ⟨rfl⟩, ⟨World.ownsMap_made _ _ _ _⟩, ⟨(Below.refl _ _).alloc (Nat.le_refl _) _⟩⟩
  case round =>
    clear HB
    obtain ⟨k, hk, rfl, HV, HM, HB⟩ := hrel
    by_cases hkl : k < l0.length
    · have q0 : 0 ≤ (k : Int) := by omega
      have q1 : (k : Int) < (l0.length : Int) := by omega
      have hst := vD_step l0 k hkl
      obtain ⟨ad, ea, hx0, hx1, hx2, hx3⟩ := at_T39 HR0.out (k : Int) q0 q1
      cases ea
      replace hx0 := (HB.out.cell (World.block_lt_of_cell? w _ hx0)).trans hx0
      replace hx1 := (HB.out.cell (World.block_lt_of_cell? w _ hx1)).trans hx1
      replace hx2 := (HB.out.cell (World.block_lt_of_cell? w _ hx2)).trans hx2
      replace hx3 := (HB.out.cell (World.block_lt_of_cell? w _ hx3)).trans hx3
      have qb := decide_eq_true q1
      simp only [Int.toNat_natCast] at hx0 hx1 hx2 hx3
      have hwf : (Lit.int .i64 (rd_T39 l0 (k : Int)).f0).wf = true := by
        have h1 := List.all_eq_true.mp HW.out _ (show rd_T39 l0 (k : Int) ∈ l0 by rw [show rd_T39 l0 (k : Int) = l0[k] by simp [rd_T39, List.getD_eq_getElem?_getD, List.getElem?_eq_getElem hkl]]; exact List.getElem_mem _)
        have h2 := inI_iff.mp h1
        exact WalkArith.wf_i64 (by omega)
      have hkey := keyOf_int_mk (P := Tryz.prog) Tryz.underlying3 hwf
      have HTK := Aside0.mk (by rw [List.take_succ_eq_append_getElem hkl, List.map_append, show rd_T39 l0 (k : Int) = l0[k] by simp [rd_T39, List.getD_eq_getElem?_getD, List.getElem?_eq_getElem hkl]]; rfl : (l0.take (k + 1)).map (·.f0) = (l0.take k).map (·.f0) ++ [(rd_T39 l0 (k : Int)).f0])
      generalize rd_T39 l0 (k : Int) = x at *
      generalize hseen : ((l0.take k).map (·.f0)).contains x.f0 = s at hst
      have hat := ids_at x.f0 _ ((l0.take k).map (·.f0)) rfl
      rw [hseen] at hat
      have HAT := Aside0.mk hat
      have HKEY := Aside0.mk hkey
      have HST := Aside0.mk hst
      replace q0 := eq_true q0
      replace q1 := eq_true q1
      clear hat hkey hst hwf hseen
      cases s with
      | true =>
        have hv : vD l0 [] = false := by rw [← HV.out, HST.out, if_pos (Or.inl rfl)]
        go_wp2_with (first | ((with_reducible refine gate_dst (N := 5) rfl ?_); refine box_event ?hg (N := 5) ?hd (cs := #[.int .i64 0, .int .i64 0, .int .i64 0, .int .i64 0]) (t := 39) ?hr ?_; (case hd => rfl); (case hg => rfl); (case hr => first | (go_simp; done) | (go_simp; rfl)); intro g hg w5 hbox hb; have n0_ := Aside0.mk (below_step HB.out hb); have m0_ := Aside0.mk (own_block HM.out (hb.block _ HM.out.lt)); have ge_ := Aside0.mk (by rw [hg]; exact HB.out.size : w.heap.size ≤ g); have ne_ := Aside0.mk (by rw [hg]; exact Nat.ne_of_lt HM.out.lt : w.heap.size ≠ g); clear HB HM; have HB := n0_; have HM := m0_; have GE := ge_; have NE := ne_; have BK := Aside0.mk hbox; clear n0_ m0_ ge_ ne_ hb hbox hg; have z0 : w5.cell? ⟨g, 0, none⟩ = some (.int .i64 0) := (blk_cell BK.out 0).trans rfl; have z1 : w5.cell? ⟨g, 1, none⟩ = some (.int .i64 0) := (blk_cell BK.out 1).trans rfl; have z2 : w5.cell? ⟨g, 2, none⟩ = some (.int .i64 0) := (blk_cell BK.out 2).trans rfl; have z3 : w5.cell? ⟨g, 3, none⟩ = some (.int .i64 0) := (blk_cell BK.out 3).trans rfl; have f0 := blk_frozen BK.out 0; have f1 := blk_frozen BK.out 1; have f2 := blk_frozen BK.out 2; have f3 := blk_frozen BK.out 3) | (at_lookup; refine wpList_lookup_own_bool _ rfl _ _ 58 rfl 3 4 law3 Tryz.underlying58 Tryz.underlying4 (zero4 _) w.heap.size k _ rfl ?own _ _ rfl HKEY.out true HAT.out ?_; (case own => with_reducible repeat first | exact HM.out | refine own_drewN ?_ _ | refine own_setc ?_ _ NE.out)))
        go_ret
        exact ⟨by first | rfl | (rw [hv]; rfl) | (simp [hv]; done), by with_reducible repeat first | exact HB.out | apply pw_below_drewN | apply below_drew1 | refine below_set ?_ GE.out⟩
      | false =>
        by_cases c0 : (decide (1 ≤ x.f0) && decide (x.f0 ≤ 1000000)) = true
        case neg =>
          replace c0 := Bool.eq_false_iff.mpr c0
          have hv : vD l0 [] = false := by rw [← HV.out, HST.out, if_pos (Or.inr (by unfold dOk; rw [c0]; rfl))]
          have B0 := Aside0.mk (by rw [between_f, c0] : setoff_between.f x.f0 1 1000000 = some false)
          go_wp2_with (first | ((with_reducible refine gate_dst (N := 5) rfl ?_); refine box_event ?hg (N := 5) ?hd (cs := #[.int .i64 0, .int .i64 0, .int .i64 0, .int .i64 0]) (t := 39) ?hr ?_; (case hd => rfl); (case hg => rfl); (case hr => first | (go_simp; done) | (go_simp; rfl)); intro g hg w5 hbox hb; have n0_ := Aside0.mk (below_step HB.out hb); have m0_ := Aside0.mk (own_block HM.out (hb.block _ HM.out.lt)); have ge_ := Aside0.mk (by rw [hg]; exact HB.out.size : w.heap.size ≤ g); have ne_ := Aside0.mk (by rw [hg]; exact Nat.ne_of_lt HM.out.lt : w.heap.size ≠ g); clear HB HM; have HB := n0_; have HM := m0_; have GE := ge_; have NE := ne_; have BK := Aside0.mk hbox; clear n0_ m0_ ge_ ne_ hb hbox hg; have z0 : w5.cell? ⟨g, 0, none⟩ = some (.int .i64 0) := (blk_cell BK.out 0).trans rfl; have z1 : w5.cell? ⟨g, 1, none⟩ = some (.int .i64 0) := (blk_cell BK.out 1).trans rfl; have z2 : w5.cell? ⟨g, 2, none⟩ = some (.int .i64 0) := (blk_cell BK.out 2).trans rfl; have z3 : w5.cell? ⟨g, 3, none⟩ = some (.int .i64 0) := (blk_cell BK.out 3).trans rfl; have f0 := blk_frozen BK.out 0; have f1 := blk_frozen BK.out 1; have f2 := blk_frozen BK.out 2; have f3 := blk_frozen BK.out 3) | (at_lookup; refine wpList_lookup_own_bool _ rfl _ _ 58 rfl 3 4 law3 Tryz.underlying58 Tryz.underlying4 (zero4 _) w.heap.size k _ rfl ?own _ _ rfl HKEY.out false HAT.out ?_; (case own => with_reducible repeat first | exact HM.out | refine own_drewN ?_ _ | refine own_setc ?_ _ NE.out)) | (go_at_call 27; with_reducible refine (setoff_between.calls _ _ _ false _ (B0.out)).mono ?_; rintro e w6 ⟨rfl, m6, rfl⟩))
          go_ret
          exact ⟨by first | rfl | (rw [hv]; rfl) | (simp [hv]; done), by with_reducible repeat first | exact HB.out | apply pw_below_drewN | apply below_drew1 | refine below_set ?_ GE.out⟩
        by_cases c1 : (decide (1 ≤ x.f1) && decide (x.f1 ≤ 4)) = true
        case neg =>
          replace c1 := Bool.eq_false_iff.mpr c1
          have hv : vD l0 [] = false := by rw [← HV.out, HST.out, if_pos (Or.inr (by unfold dOk; rw [c0, c1]; rfl))]
          have B0 := Aside0.mk (by rw [between_f, c0] : setoff_between.f x.f0 1 1000000 = some true)
          have B1 := Aside0.mk (by rw [between_f, c1] : setoff_between.f x.f1 1 4 = some false)
          go_wp2_with (first | ((with_reducible refine gate_dst (N := 5) rfl ?_); refine box_event ?hg (N := 5) ?hd (cs := #[.int .i64 0, .int .i64 0, .int .i64 0, .int .i64 0]) (t := 39) ?hr ?_; (case hd => rfl); (case hg => rfl); (case hr => first | (go_simp; done) | (go_simp; rfl)); intro g hg w5 hbox hb; have n0_ := Aside0.mk (below_step HB.out hb); have m0_ := Aside0.mk (own_block HM.out (hb.block _ HM.out.lt)); have ge_ := Aside0.mk (by rw [hg]; exact HB.out.size : w.heap.size ≤ g); have ne_ := Aside0.mk (by rw [hg]; exact Nat.ne_of_lt HM.out.lt : w.heap.size ≠ g); clear HB HM; have HB := n0_; have HM := m0_; have GE := ge_; have NE := ne_; have BK := Aside0.mk hbox; clear n0_ m0_ ge_ ne_ hb hbox hg; have z0 : w5.cell? ⟨g, 0, none⟩ = some (.int .i64 0) := (blk_cell BK.out 0).trans rfl; have z1 : w5.cell? ⟨g, 1, none⟩ = some (.int .i64 0) := (blk_cell BK.out 1).trans rfl; have z2 : w5.cell? ⟨g, 2, none⟩ = some (.int .i64 0) := (blk_cell BK.out 2).trans rfl; have z3 : w5.cell? ⟨g, 3, none⟩ = some (.int .i64 0) := (blk_cell BK.out 3).trans rfl; have f0 := blk_frozen BK.out 0; have f1 := blk_frozen BK.out 1; have f2 := blk_frozen BK.out 2; have f3 := blk_frozen BK.out 3) | (at_lookup; refine wpList_lookup_own_bool _ rfl _ _ 58 rfl 3 4 law3 Tryz.underlying58 Tryz.underlying4 (zero4 _) w.heap.size k _ rfl ?own _ _ rfl HKEY.out false HAT.out ?_; (case own => with_reducible repeat first | exact HM.out | refine own_drewN ?_ _ | refine own_setc ?_ _ NE.out)) | (go_at_call 27; with_reducible refine (setoff_between.calls _ _ _ true _ (B0.out)).mono ?_; rintro e w6 ⟨rfl, m6, rfl⟩) | (go_at_call 27; with_reducible refine (setoff_between.calls _ _ _ false _ (B1.out)).mono ?_; rintro e w6 ⟨rfl, m6, rfl⟩))
          go_ret
          exact ⟨by first | rfl | (rw [hv]; rfl) | (simp [hv]; done), by with_reducible repeat first | exact HB.out | apply pw_below_drewN | apply below_drew1 | refine below_set ?_ GE.out⟩
        by_cases c2 : (decide (0 ≤ x.f2) && decide (x.f2 ≤ 36524)) = true
        case neg =>
          replace c2 := Bool.eq_false_iff.mpr c2
          have hv : vD l0 [] = false := by rw [← HV.out, HST.out, if_pos (Or.inr (by unfold dOk; rw [c0, c1, c2]; rfl))]
          have B0 := Aside0.mk (by rw [between_f, c0] : setoff_between.f x.f0 1 1000000 = some true)
          have B1 := Aside0.mk (by rw [between_f, c1] : setoff_between.f x.f1 1 4 = some true)
          have B2 := Aside0.mk (by rw [between_f, c2] : setoff_between.f x.f2 0 36524 = some false)
          go_wp2_with (first | ((with_reducible refine gate_dst (N := 5) rfl ?_); refine box_event ?hg (N := 5) ?hd (cs := #[.int .i64 0, .int .i64 0, .int .i64 0, .int .i64 0]) (t := 39) ?hr ?_; (case hd => rfl); (case hg => rfl); (case hr => first | (go_simp; done) | (go_simp; rfl)); intro g hg w5 hbox hb; have n0_ := Aside0.mk (below_step HB.out hb); have m0_ := Aside0.mk (own_block HM.out (hb.block _ HM.out.lt)); have ge_ := Aside0.mk (by rw [hg]; exact HB.out.size : w.heap.size ≤ g); have ne_ := Aside0.mk (by rw [hg]; exact Nat.ne_of_lt HM.out.lt : w.heap.size ≠ g); clear HB HM; have HB := n0_; have HM := m0_; have GE := ge_; have NE := ne_; have BK := Aside0.mk hbox; clear n0_ m0_ ge_ ne_ hb hbox hg; have z0 : w5.cell? ⟨g, 0, none⟩ = some (.int .i64 0) := (blk_cell BK.out 0).trans rfl; have z1 : w5.cell? ⟨g, 1, none⟩ = some (.int .i64 0) := (blk_cell BK.out 1).trans rfl; have z2 : w5.cell? ⟨g, 2, none⟩ = some (.int .i64 0) := (blk_cell BK.out 2).trans rfl; have z3 : w5.cell? ⟨g, 3, none⟩ = some (.int .i64 0) := (blk_cell BK.out 3).trans rfl; have f0 := blk_frozen BK.out 0; have f1 := blk_frozen BK.out 1; have f2 := blk_frozen BK.out 2; have f3 := blk_frozen BK.out 3) | (at_lookup; refine wpList_lookup_own_bool _ rfl _ _ 58 rfl 3 4 law3 Tryz.underlying58 Tryz.underlying4 (zero4 _) w.heap.size k _ rfl ?own _ _ rfl HKEY.out false HAT.out ?_; (case own => with_reducible repeat first | exact HM.out | refine own_drewN ?_ _ | refine own_setc ?_ _ NE.out)) | (go_at_call 27; with_reducible refine (setoff_between.calls _ _ _ true _ (B0.out)).mono ?_; rintro e w6 ⟨rfl, m6, rfl⟩) | (go_at_call 27; with_reducible refine (setoff_between.calls _ _ _ true _ (B1.out)).mono ?_; rintro e w6 ⟨rfl, m6, rfl⟩) | (go_at_call 27; with_reducible refine (setoff_between.calls _ _ _ false _ (B2.out)).mono ?_; rintro e w6 ⟨rfl, m6, rfl⟩))
          go_ret
          exact ⟨by first | rfl | (rw [hv]; rfl) | (simp [hv]; done), by with_reducible repeat first | exact HB.out | apply pw_below_drewN | apply below_drew1 | refine below_set ?_ GE.out⟩
        by_cases c3 : (decide (0 ≤ x.f3) && decide (x.f3 ≤ 1000000000)) = true
        case neg =>
          replace c3 := Bool.eq_false_iff.mpr c3
          have hv : vD l0 [] = false := by rw [← HV.out, HST.out, if_pos (Or.inr (by unfold dOk; rw [c0, c1, c2, c3]; rfl))]
          have B0 := Aside0.mk (by rw [between_f, c0] : setoff_between.f x.f0 1 1000000 = some true)
          have B1 := Aside0.mk (by rw [between_f, c1] : setoff_between.f x.f1 1 4 = some true)
          have B2 := Aside0.mk (by rw [between_f, c2] : setoff_between.f x.f2 0 36524 = some true)
          have B3 := Aside0.mk (by rw [between_f, c3] : setoff_between.f x.f3 0 1000000000 = some false)
          go_wp2_with (first | ((with_reducible refine gate_dst (N := 5) rfl ?_); refine box_event ?hg (N := 5) ?hd (cs := #[.int .i64 0, .int .i64 0, .int .i64 0, .int .i64 0]) (t := 39) ?hr ?_; (case hd => rfl); (case hg => rfl); (case hr => first | (go_simp; done) | (go_simp; rfl)); intro g hg w5 hbox hb; have n0_ := Aside0.mk (below_step HB.out hb); have m0_ := Aside0.mk (own_block HM.out (hb.block _ HM.out.lt)); have ge_ := Aside0.mk (by rw [hg]; exact HB.out.size : w.heap.size ≤ g); have ne_ := Aside0.mk (by rw [hg]; exact Nat.ne_of_lt HM.out.lt : w.heap.size ≠ g); clear HB HM; have HB := n0_; have HM := m0_; have GE := ge_; have NE := ne_; have BK := Aside0.mk hbox; clear n0_ m0_ ge_ ne_ hb hbox hg; have z0 : w5.cell? ⟨g, 0, none⟩ = some (.int .i64 0) := (blk_cell BK.out 0).trans rfl; have z1 : w5.cell? ⟨g, 1, none⟩ = some (.int .i64 0) := (blk_cell BK.out 1).trans rfl; have z2 : w5.cell? ⟨g, 2, none⟩ = some (.int .i64 0) := (blk_cell BK.out 2).trans rfl; have z3 : w5.cell? ⟨g, 3, none⟩ = some (.int .i64 0) := (blk_cell BK.out 3).trans rfl; have f0 := blk_frozen BK.out 0; have f1 := blk_frozen BK.out 1; have f2 := blk_frozen BK.out 2; have f3 := blk_frozen BK.out 3) | (at_lookup; refine wpList_lookup_own_bool _ rfl _ _ 58 rfl 3 4 law3 Tryz.underlying58 Tryz.underlying4 (zero4 _) w.heap.size k _ rfl ?own _ _ rfl HKEY.out false HAT.out ?_; (case own => with_reducible repeat first | exact HM.out | refine own_drewN ?_ _ | refine own_setc ?_ _ NE.out)) | (go_at_call 27; with_reducible refine (setoff_between.calls _ _ _ true _ (B0.out)).mono ?_; rintro e w6 ⟨rfl, m6, rfl⟩) | (go_at_call 27; with_reducible refine (setoff_between.calls _ _ _ true _ (B1.out)).mono ?_; rintro e w6 ⟨rfl, m6, rfl⟩) | (go_at_call 27; with_reducible refine (setoff_between.calls _ _ _ true _ (B2.out)).mono ?_; rintro e w6 ⟨rfl, m6, rfl⟩) | (go_at_call 27; with_reducible refine (setoff_between.calls _ _ _ false _ (B3.out)).mono ?_; rintro e w6 ⟨rfl, m6, rfl⟩))
          go_ret
          exact ⟨by first | rfl | (rw [hv]; rfl) | (simp [hv]; done), by with_reducible repeat first | exact HB.out | apply pw_below_drewN | apply below_drew1 | refine below_set ?_ GE.out⟩
        have hd : dOk x = true := by unfold dOk; rw [c0, c1, c2, c3]; rfl
        have hv : vD (l0.drop (k + 1)) ((l0.take (k + 1)).map (·.f0)) = vD l0 [] := by rw [← HV.out, HST.out, if_neg (by rw [hd]; simp)]
        have B0 := Aside0.mk (by rw [between_f, c0] : setoff_between.f x.f0 1 1000000 = some true)
        have B1 := Aside0.mk (by rw [between_f, c1] : setoff_between.f x.f1 1 4 = some true)
        have B2 := Aside0.mk (by rw [between_f, c2] : setoff_between.f x.f2 0 36524 = some true)
        have B3 := Aside0.mk (by rw [between_f, c3] : setoff_between.f x.f3 0 1000000000 = some true)
        have HVN := Aside0.mk hv
        clear hv
        go_wp2_with (first | ((with_reducible refine gate_dst (N := 5) rfl ?_); refine box_event ?hg (N := 5) ?hd (cs := #[.int .i64 0, .int .i64 0, .int .i64 0, .int .i64 0]) (t := 39) ?hr ?_; (case hd => rfl); (case hg => rfl); (case hr => first | (go_simp; done) | (go_simp; rfl)); intro g hg w5 hbox hb; have n0_ := Aside0.mk (below_step HB.out hb); have m0_ := Aside0.mk (own_block HM.out (hb.block _ HM.out.lt)); have ge_ := Aside0.mk (by rw [hg]; exact HB.out.size : w.heap.size ≤ g); have ne_ := Aside0.mk (by rw [hg]; exact Nat.ne_of_lt HM.out.lt : w.heap.size ≠ g); clear HB HM; have HB := n0_; have HM := m0_; have GE := ge_; have NE := ne_; have BK := Aside0.mk hbox; clear n0_ m0_ ge_ ne_ hb hbox hg; have z0 : w5.cell? ⟨g, 0, none⟩ = some (.int .i64 0) := (blk_cell BK.out 0).trans rfl; have z1 : w5.cell? ⟨g, 1, none⟩ = some (.int .i64 0) := (blk_cell BK.out 1).trans rfl; have z2 : w5.cell? ⟨g, 2, none⟩ = some (.int .i64 0) := (blk_cell BK.out 2).trans rfl; have z3 : w5.cell? ⟨g, 3, none⟩ = some (.int .i64 0) := (blk_cell BK.out 3).trans rfl; have f0 := blk_frozen BK.out 0; have f1 := blk_frozen BK.out 1; have f2 := blk_frozen BK.out 2; have f3 := blk_frozen BK.out 3) | (at_lookup; refine wpList_lookup_own_bool _ rfl _ _ 58 rfl 3 4 law3 Tryz.underlying58 Tryz.underlying4 (zero4 _) w.heap.size k _ rfl ?own _ _ rfl HKEY.out false HAT.out ?_; (case own => with_reducible repeat first | exact HM.out | refine own_drewN ?_ _ | refine own_setc ?_ _ NE.out)) | (go_at_call 27; with_reducible refine (setoff_between.calls _ _ _ true _ (B0.out)).mono ?_; rintro e w6 ⟨rfl, m6, rfl⟩) | (go_at_call 27; with_reducible refine (setoff_between.calls _ _ _ true _ (B1.out)).mono ?_; rintro e w6 ⟨rfl, m6, rfl⟩) | (go_at_call 27; with_reducible refine (setoff_between.calls _ _ _ true _ (B2.out)).mono ?_; rintro e w6 ⟨rfl, m6, rfl⟩) | (go_at_call 27; with_reducible refine (setoff_between.calls _ _ _ true _ (B3.out)).mono ?_; rintro e w6 ⟨rfl, m6, rfl⟩) | (at_mapUpdate; refine wpList_mapUpdate_own _ rfl _ _ _ 58 rfl 3 4 law3 Tryz.underlying58 (plainElem (H := Unit) Tryz.prog 4) w.heap.size k (idsL ((l0.take k).map (·.f0))) rfl ?own (by have := HL.out; unfold maxLen; omega) _ _ _ rfl rfl HKEY.out _ [] (plainElem_bool Tryz.underlying4 true) ?_; (case own => with_reducible repeat first | exact HM.out | refine own_drewN ?_ _ | refine own_setc ?_ _ NE.out); intro w7 hown7 hgrow7))
        go_roundw
        case rel =>
          have hl_ := HL.out
          have w1 : wrap64 ((k : Int) + 1) = ((k + 1 : Nat) : Int) := by unfold wrap64; omega
          exact ⟨k + 1, by omega, congrArg (Value.int .i64) w1, HVN, ⟨by rw [HTK.out, ids_snoc]; exact hown7⟩, ⟨by refine pw_below_grown ?hb (some w.heap.size) ?hs hgrow7 (fun j hj => by cases hj; exact Nat.le_refl _); (case hb => with_reducible repeat first | exact HB.out | apply pw_below_drewN | apply below_drew1 | refine below_set ?_ GE.out); (case hs => refine below_size (w := w) ?_; with_reducible repeat first | exact HB.out | apply pw_below_drewN | apply below_drew1 | refine below_set ?_ GE.out)⟩⟩
        case measure =>
          have hl_ := HL.out
          have w1 : wrap64 ((k : Int) + 1) = ((k + 1 : Nat) : Int) := by unfold wrap64; omega
          rw [intOf_i64So, intOf_i64So, w1]
          exact meas_ltSo _ _ hkl
    · have hk2 : k = l0.length := by omega
      subst hk2
      have hv : vD l0 [] = true := by rw [← HV.out, List.drop_length]; rfl
      clear HM
      by_cases hl : l0.length ≤ 100
      · have b1 : decide ((l0.length : Int) ≤ 100) = true := decide_eq_true (by omega)
        go_wp2
        go_ret
        exact ⟨by first | (rw [hv, decide_eq_true hl]; rfl) | (simp [hv, hl]; done), by repeat (first | exact HB.out | apply pw_below_drewN | apply below_drew1)⟩
      · have b1 : decide ((l0.length : Int) ≤ 100) = false := decide_eq_false (by omega)
        go_wp2
        go_ret
        exact ⟨by first | (rw [hv, decide_eq_false hl]; rfl) | (simp [hv, hl]; done), by repeat (first | exact HB.out | apply pw_below_drewN | apply below_drew1)⟩
end

/-! ### setoff_late: function 34 -/
-- by hand: cohousing/setoff.late
section
theorem inf39 : (Tryz.prog.info? 39).map (fun i => (i.zero, i.size, i.bytes)) = some (some (.agg #[(.int .i64 0), (.int .i64 0), (.int .i64 0), (.int .i64 0)]), 4, 32) := by kernel_rfl
def lateB (day : Int) (kinds : List Int) (x : S39) : Bool := (kinds.contains x.f1 && decide (x.f2 < day)) && decide (0 < x.f3)
def setoff_late.f (l0 : List S39) (a1 : Int) (l2 : List Int) : Option (List S39 × List S39) := if l0.length < 4294967296 ∧ l2.length < 4294967296 then some (l0.filter (lateB a1 l2), l0.filter (fun x => !lateB a1 l2 x)) else none
/-- The two rows so far, and that they are apart. -/
structure Lt (w wr : World) (vy vn : Value) (ys ns : List S39) : Prop where
  ry : Kd.R k39 39 wr w.heap.size (fun _ => True) vy ys
  rn : Kd.R k39 39 wr w.heap.size (fun _ => True) vn ns
  ap : ∀ k, vy.ownBlock = some k → vn.ownBlock ≠ some k
theorem own_ltR {w wr : World} {v : Value} {l : List S39} (h : Kd.R k39 39 wr w.heap.size (fun _ => True) v l) : ∀ k, v.ownBlock = some k → k < wr.heap.size := by
  intro k hk
  obtain ⟨inner, ho⟩ := Kd.R_own h
  exact own_lt ho k hk
theorem Lt.set {w wr : World} {vy vn : Value} {ys ns : List S39} {g : Nat} (h : Lt w wr vy vn ys ns) (hy : some g ≠ vy.ownBlock) (hn : some g ≠ vn.ownBlock) (i : Nat) (v : Value) : Lt w (wr.setCell ⟨g, i, none⟩ v) vy vn ys ns :=
  ⟨Kd.R_mono (Kd.R_far (p := ⟨g, i, none⟩) (Kd.R_far1 h.ry rfl hy) (fun _ hk => hk.2) v) (fun _ _ => trivial), Kd.R_mono (Kd.R_far (p := ⟨g, i, none⟩) (Kd.R_far1 h.rn rfl hn) (fun _ hk => hk.2) v) (fun _ _ => trivial), h.ap⟩
theorem Lt.addY {w W w1 : World} {vy vn v1 : Value} {ys ns ys' : List S39} (h : Lt w W vy vn ys ns) (h1 : Kd.R k39 39 w1 w.heap.size (fun _ => True) v1 ys') (hg : W.grownBy w1 vy.ownBlock) (hat : v1.ownBlock = vy.ownBlock ∨ ∃ b, v1.ownBlock = some b ∧ W.heap.size ≤ b) : Lt w w1 v1 vn ys' ns := by
  refine ⟨h1, Kd.R_grown2 h.rn rfl hg (fun k hk e => h.ap k hk e.symm), fun k hk e => ?_⟩
  rcases hat with e1 | ⟨b, e1, hb⟩
  · exact h.ap k (e1.symm.trans hk) e
  · have := own_ltR h.rn k e
    rw [e1] at hk
    injection hk with hk
    omega
theorem Lt.addN {w W w1 : World} {vy vn v1 : Value} {ys ns ns' : List S39} (h : Lt w W vy vn ys ns) (h1 : Kd.R k39 39 w1 w.heap.size (fun _ => True) v1 ns') (hg : W.grownBy w1 vn.ownBlock) (hat : v1.ownBlock = vn.ownBlock ∨ ∃ b, v1.ownBlock = some b ∧ W.heap.size ≤ b) : Lt w w1 vy v1 ys ns' := by
  refine ⟨Kd.R_grown2 h.ry rfl hg (fun k hk e => h.ap k e.symm hk), h1, fun k hk e => ?_⟩
  rcases hat with e1 | ⟨b, e1, hb⟩
  · exact h.ap k hk (e1.symm.trans e)
  · have := own_ltR h.ry k hk
    rw [e1] at e
    injection e with e
    omega
def hitB (day q : Int) (x : S39) : Bool := (decide (x.f1 = q) && decide (x.f2 < day)) && decide (0 < x.f3)
theorem late_no (day : Int) (l : List Int) (x : S39) (h : ∀ q ∈ l, hitB day q x = false) : lateB day l x = false := by
  cases e : lateB day l x with
  | false => rfl
  | true =>
    unfold lateB at e
    simp only [Bool.and_eq_true, List.contains_iff_mem] at e
    have := h _ e.1.1
    unfold hitB at this
    rw [e.1.2, e.2] at this
    simp at this
theorem late_yes (day : Int) (l : List Int) (x : S39) (q : Int) (hq : q ∈ l) (h : hitB day q x = true) : lateB day l x = true := by
  unfold hitB at h
  simp only [Bool.and_eq_true, decide_eq_true_eq] at h
  unfold lateB
  simp only [Bool.and_eq_true, List.contains_iff_mem, decide_eq_true_eq]
  exact ⟨⟨h.1.1 ▸ hq, h.1.2⟩, h.2⟩
theorem rd_memSo (l : List Int) (k : Nat) (hk : k < l.length) : rd l (k : Int) = l[k] := by simp [rd, List.getD_eq_getElem?_getD, List.getElem?_eq_getElem hk]
theorem late_at (l : List S39) (k : Nat) (hk : k < l.length) (p : S39 → Bool) : (l.take (k + 1)).filter p = (l.take k).filter p ++ (if p (rd_T39 l (k : Int)) = true then [rd_T39 l (k : Int)] else []) := by
  have e : rd_T39 l (k : Int) = l[k] := by simp [rd_T39, List.getD_eq_getElem?_getD, List.getElem?_eq_getElem hk]
  rw [e, List.take_succ_eq_append_getElem hk, List.filter_append]
  congr 1
  rw [List.filter_cons]
  split <;> rfl
set_option maxHeartbeats 8000000 in
set_option maxRecDepth 100000 in
theorem setoff_late.calls (A0 : Option Addr) (c0 : Nat) (l0 : List S39) (a1 : Int) (A2 : Option Addr) (c2 : Nat) (l2 : List Int) (r1 : List S39) (r2 : List S39) (w : World) (hr0 : Kd.C k39 w A0 l0.length l0) (hc0 : l0.length ≤ c0) (hr2 : Kd.C (Kd.int .i64) w A2 l2.length l2) (hc2 : l2.length ≤ c2) (h : setoff_late.f l0 a1 l2 = some (r1, r2)) :
    Calls Tryz.prog 34 #[.slice A0 l0.length c0, .int .i64 a1, .slice A2 l2.length c2] w fun e w' => ∃ v0_ v1_ : Value, e = .returned (.tuple #[v0_, v1_]) ∧ Kd.R k39 39 w' w.heap.size (fun k_ => some k_ ≠ (v1_ : Value).ownBlock) v0_ r1 ∧ Kd.R k39 39 w' w.heap.size (fun k_ => some k_ ≠ (v0_ : Value).ownBlock) v1_ r2 ∧ Below w.heap.size w w' := by
  have hu39 := Tryz.underlying39
  have HR0 := Aside0.mk hr0
  have HC0 := Aside0.mk hc0
  have HR2 := Aside0.mk hr2
  have HC2 := Aside0.mk hc2
  clear hr0 hc0 hr2 hc2
  unfold setoff_late.f at h
  split at h
  case isFalse => exact absurd h (by simp)
  rename_i hlen
  have HL := Aside0.mk hlen
  simp only [Option.some.injEq, Prod.mk.injEq] at h
  obtain ⟨rfl, rfl⟩ := h
  clear hlen
  have HB := Aside0.mk (Below.refl w.heap.size w)
  go_enter Tryz.func34, Tryz.ntmps34
  go_wp2
  go_step3
  go_wp2
  refine wp_label ?_
  go_wp2
  go_loopw [6, 7, 14] (fun v6 v7 v14 wr => ∃ k : Nat, k ≤ l0.length ∧ v14 = .int .i64 k ∧ Aside0 (Lt w wr v6 v7 ((l0.take k).filter (lateB a1 l2)) ((l0.take k).filter (fun x => !lateB a1 l2 x))) ∧ Aside0 (Below w.heap.size w wr)) (fun _ _ v14 _ => l0.length - (intOf v14).toNat)
  case atStart => exact ⟨0, Nat.zero_le _, rfl, ⟨⟨Kd.R_nil _ _ _ _ _, Kd.R_nil _ _ _ _ _, by simp [Value.ownBlock]⟩⟩, HB⟩
  case round =>
    clear HB
    obtain ⟨k, hk, rfl, HLt, HB⟩ := hrel
    by_cases hkl : k < l0.length
    · have q0 : 0 ≤ (k : Int) := by omega
      have q1 : (k : Int) < (l0.length : Int) := by omega
      have hy := late_at l0 k hkl (lateB a1 l2)
      have hn := late_at l0 k hkl (fun x => !lateB a1 l2 x)
      obtain ⟨ad, ea, hx0, hx1, hx2, hx3⟩ := at_T39 HR0.out (k : Int) q0 q1
      cases ea
      replace hx0 := (HB.out.cell (World.block_lt_of_cell? w _ hx0)).trans hx0
      replace hx1 := (HB.out.cell (World.block_lt_of_cell? w _ hx1)).trans hx1
      replace hx2 := (HB.out.cell (World.block_lt_of_cell? w _ hx2)).trans hx2
      replace hx3 := (HB.out.cell (World.block_lt_of_cell? w _ hx3)).trans hx3
      have qb := decide_eq_true q1
      simp only [Int.toNat_natCast] at hx0 hx1 hx2 hx3
      generalize rd_T39 l0 (k : Int) = x at *
      have HY := Aside0.mk hy
      have HN := Aside0.mk hn
      clear hy hn
      go_wp2_with (first | ((with_reducible refine gate_dst (N := 9) rfl ?_); refine box_event ?hg (N := 9) ?hd (cs := #[.int .i64 0, .int .i64 0, .int .i64 0, .int .i64 0]) (t := 39) ?hr ?_; (case hd => rfl); (case hg => rfl); (case hr => first | (go_simp; done) | (go_simp; rfl)); intro g hg w5 hbox hb; have n0_ := Aside0.mk (below_step HB.out hb); have ge_ := Aside0.mk (by rw [hg]; exact HB.out.size : w.heap.size ≤ g); have ny_ := Aside0.mk (fun e => Nat.lt_irrefl g (by have := own_ltR HLt.out.ry g e.symm; rw [← hg] at this; exact this) : some g ≠ (u6 : Value).ownBlock); have nn_ := Aside0.mk (fun e => Nat.lt_irrefl g (by have := own_ltR HLt.out.rn g e.symm; rw [← hg] at this; exact this) : some g ≠ (u7 : Value).ownBlock); have lt_ := Aside0.mk (⟨Kd.R_below HLt.out.ry hb, Kd.R_below HLt.out.rn hb, HLt.out.ap⟩ : Lt w w5 u6 u7 _ _); clear HB HLt; have HB := n0_; have GE := ge_; have NY := ny_; have NN := nn_; have HLt := lt_; have BK := Aside0.mk hbox; clear n0_ ge_ ny_ nn_ lt_ hb hbox hg; have z0 : w5.cell? ⟨g, 0, none⟩ = some (.int .i64 0) := (blk_cell BK.out 0).trans rfl; have z1 : w5.cell? ⟨g, 1, none⟩ = some (.int .i64 0) := (blk_cell BK.out 1).trans rfl; have z2 : w5.cell? ⟨g, 2, none⟩ = some (.int .i64 0) := (blk_cell BK.out 2).trans rfl; have z3 : w5.cell? ⟨g, 3, none⟩ = some (.int .i64 0) := (blk_cell BK.out 3).trans rfl; have f0 := blk_frozen BK.out 0; have f1 := blk_frozen BK.out 1; have f2 := blk_frozen BK.out 2; have f3 := blk_frozen BK.out 3))
      obtain ⟨W, hW⟩ : ∃ W_ : World, W_ = (((w5.setCell ⟨g, 0, none⟩ (.int .i64 x.f0)).setCell ⟨g, 1, none⟩ (.int .i64 x.f1)).setCell ⟨g, 2, none⟩ (.int .i64 x.f2)).setCell ⟨g, 3, none⟩ (.int .i64 x.f3) := ⟨_, rfl⟩
      rw [← hW]
      have n0_ := Aside0.mk (by rw [hW]; exact blk_put (blk_put (blk_put (blk_put BK.out 0 (.int .i64 x.f0) rfl) 1 (.int .i64 x.f1) rfl) 2 (.int .i64 x.f2) rfl) 3 (.int .i64 x.f3) rfl : W.heap[g]? = some (.cells #[.int .i64 x.f0, .int .i64 x.f1, .int .i64 x.f2, .int .i64 x.f3] 39 (0, 0)))
      have n1_ := Aside0.mk (by rw [hW]; exact (((HLt.out.set NY.out NN.out 0 _).set NY.out NN.out 1 _).set NY.out NN.out 2 _).set NY.out NN.out 3 _ : Lt w W u6 u7 ((l0.take k).filter (lateB a1 l2)) ((l0.take k).filter (fun x => !lateB a1 l2 x)))
      have n2_ := Aside0.mk (by rw [hW]; exact below_set (below_set (below_set (below_set HB.out GE.out) GE.out) GE.out) GE.out : Below w.heap.size w W)
      clear hW BK HLt HB z0 z1 z2 z3 f0 f1 f2 f3 hx0 hx1 hx2 hx3
      have BK := n0_
      have HLt := n1_
      have HB := n2_
      clear n0_ n1_ n2_
      have z0 : W.cell? ⟨g, 0, none⟩ = some (.int .i64 x.f0) := (blk_cell BK.out 0).trans rfl
      have z1 : W.cell? ⟨g, 1, none⟩ = some (.int .i64 x.f1) := (blk_cell BK.out 1).trans rfl
      have z2 : W.cell? ⟨g, 2, none⟩ = some (.int .i64 x.f2) := (blk_cell BK.out 2).trans rfl
      have z3 : W.cell? ⟨g, 3, none⟩ = some (.int .i64 x.f3) := (blk_cell BK.out 3).trans rfl
      go_loopw [6, 20] (fun v6 v20 wr' => ∃ j : Nat, j ≤ l2.length ∧ v20 = .int .i64 j ∧ wr' = W ∧ v6 = u6 ∧ Aside0 (∀ q ∈ l2.take j, hitB a1 q x = false)) (fun _ v20 _ => l2.length - (intOf v20).toNat)
      case atStart => exact ⟨0, Nat.zero_le _, rfl, rfl, rfl, ⟨by simp⟩⟩
      case round =>
        obtain ⟨j, hj, rfl, hw_, hu_, HQ⟩ := hrel
        subst hw_
        subst hu_
        by_cases hjl : j < l2.length
        · have p0 : 0 ≤ (j : Int) := by omega
          have p1 : (j : Int) < (l2.length : Int) := by omega
          have pb := decide_eq_true p1
          obtain ⟨ad2, ea2, hy0⟩ := Kd.at_int HR2.out (j : Int) p0 p1
          cases ea2
          replace hy0 := (HB.out.cell (World.block_lt_of_cell? w _ hy0)).trans hy0
          simp only [Int.toNat_natCast] at hy0
          have hqm : rd l2 (j : Int) ∈ l2 := by rw [rd_memSo l2 j hjl]; exact List.getElem_mem _
          have HTK := Aside0.mk (by rw [List.take_succ_eq_append_getElem hjl, rd_memSo l2 j hjl] : l2.take (j + 1) = l2.take j ++ [rd l2 (j : Int)])
          generalize rd l2 (j : Int) = q at *
          by_cases hh : hitB a1 q x = true
          · have hhy := late_yes a1 l2 x q hqm hh
            have hh' := hh
            unfold hitB at hh'
            simp only [Bool.and_eq_true, decide_eq_true_eq] at hh'
            obtain ⟨⟨e1, e2⟩, e3⟩ := hh'
            have b1 : (x.f1 == q) = true := by rw [e1]; simp
            have b2 := decide_eq_true e2
            have b3 := decide_eq_true e3
            have b3' : decide (x.f3 > 0) = true := b3
            clear e1 e2 e3 hh
            go_wp2_with (first | ((with_reducible refine gate_builtin (b := .append) (xs := #[.tmp 39, .tmp 41]) rfl ?_); at_builtin; refine Kd.R_append k39 (w0 := w) w.heap.size rfl (.tmp 39) (.tmp 41) 22 39 (.agg #[(.int .i64 0), (.int .i64 0), (.int .i64 0), (.int .i64 0)]) 32 rfl Tryz.underlying22 inf39 rfl (by decide) (by omega) u6 _ x [.int .i64 x.f0, .int .i64 x.f1, .int .i64 x.f2, .int .i64 x.f3] (fun _ => True) (fun _ => False) rfl (by first | (go_simp; done) | (go_simp; rfl)) ?aP (fun _ hk => hk.elim) (fun _ _ => trivial) HLt.out.ry HB.out HB.out.size ?aL ?_; (case aP => exact k39_mkM _ _ _ x); (case aL => have hl_ := HL.out.1; have hf_ := List.length_filter_le (lateB a1 l2) (l0.take k); rw [List.length_take] at hf_; omega); intro v1 w6 ho hb hg hat; have n0_ := Aside0.mk (HLt.out.addY ho hg hat); have n1_ := Aside0.mk hb; clear HLt HB ho hb hg hat; have HLt := n0_; have HB := n1_; clear n0_ n1_))
            have hl_ := HL.out
            have w1 : wrap64 ((k : Int) + 1) = ((k + 1 : Nat) : Int) := by unfold wrap64; omega
            refine ⟨⟨k + 1, by omega, congrArg (Value.int .i64) w1, ⟨?_⟩, HB⟩, ?_⟩
            · rw [HY.out, HN.out, if_pos hhy, if_neg (by simp [hhy]), List.append_nil]
              exact HLt.out
            · rw [intOf_i64So, intOf_i64So, w1]
              exact meas_ltSo _ _ hkl
          · have hhn : hitB a1 q x = false := Bool.eq_false_iff.mpr hh
            have HQN : Aside0 (∀ q ∈ l2.take (j + 1), hitB a1 q x = false) := ⟨by
              intro y hy
              rw [HTK.out] at hy
              rcases List.mem_append.mp hy with hy | hy
              · exact HQ.out y hy
              · rw [List.mem_singleton.mp hy]; exact hhn⟩
            unfold hitB at hhn
            have hl_ := HL.out
            have w1 : wrap64 ((j : Int) + 1) = ((j + 1 : Nat) : Int) := by unfold wrap64; omega
            have W1 := Aside0.mk w1
            clear w1 hl_ hh
            by_cases e1 : x.f1 = q
            · by_cases e2 : x.f2 < a1
              · have e3 : ¬ x.f3 > 0 := by
                  intro e3
                  rw [decide_eq_true e1, decide_eq_true e2, decide_eq_true (show 0 < x.f3 from e3)] at hhn
                  simp at hhn
                have b1 : (x.f1 == q) = true := by rw [e1]; simp
                have b2 := decide_eq_true e2
                have b3 := decide_eq_false e3
                clear e1 e2 e3 hhn
                go_wp2
                go_roundw
                case rel => exact ⟨j + 1, by omega, congrArg (Value.int .i64) W1.out, by first | rfl | trivial, by first | rfl | trivial, HQN⟩
                case measure => rw [intOf_i64So, intOf_i64So, W1.out]; exact meas_ltSo _ _ hjl
              · have b1 : (x.f1 == q) = true := by rw [e1]; simp
                have b2 := decide_eq_false e2
                clear e1 e2 hhn
                go_wp2
                go_roundw
                case rel => exact ⟨j + 1, by omega, congrArg (Value.int .i64) W1.out, by first | rfl | trivial, by first | rfl | trivial, HQN⟩
                case measure => rw [intOf_i64So, intOf_i64So, W1.out]; exact meas_ltSo _ _ hjl
            · have b1 : (x.f1 == q) = false := by simp [e1]
              clear e1 hhn
              go_wp2
              go_roundw
              case rel => exact ⟨j + 1, by omega, congrArg (Value.int .i64) W1.out, by first | rfl | trivial, by first | rfl | trivial, HQN⟩
              case measure => rw [intOf_i64So, intOf_i64So, W1.out]; exact meas_ltSo _ _ hjl
        · have hj2 : j = l2.length := by omega
          subst hj2
          have hno := late_no a1 l2 x (by have := HQ.out; rwa [List.take_length] at this)
          clear HQ
          go_wp2_with (first | ((with_reducible refine gate_builtin (b := .append) (xs := #[.tmp 44, .tmp 46]) rfl ?_); at_builtin; refine Kd.R_append k39 (w0 := w) w.heap.size rfl (.tmp 44) (.tmp 46) 22 39 (.agg #[(.int .i64 0), (.int .i64 0), (.int .i64 0), (.int .i64 0)]) 32 rfl Tryz.underlying22 inf39 rfl (by decide) (by omega) u7 _ x [.int .i64 x.f0, .int .i64 x.f1, .int .i64 x.f2, .int .i64 x.f3] (fun _ => True) (fun _ => False) rfl (by first | (go_simp; done) | (go_simp; rfl)) ?aP (fun _ hk => hk.elim) (fun _ _ => trivial) HLt.out.rn HB.out HB.out.size ?aL ?_; (case aP => exact k39_mkM _ _ _ x); (case aL => have hl_ := HL.out.1; have hf_ := List.length_filter_le (fun x => !lateB a1 l2 x) (l0.take k); rw [List.length_take] at hf_; omega); intro v1 w6 ho hb hg hat; have n0_ := Aside0.mk (HLt.out.addN ho hg hat); have n1_ := Aside0.mk hb; clear HLt HB ho hb hg hat; have HLt := n0_; have HB := n1_; clear n0_ n1_))
          have hl_ := HL.out
          have w1 : wrap64 ((k : Int) + 1) = ((k + 1 : Nat) : Int) := by unfold wrap64; omega
          refine ⟨⟨k + 1, by omega, congrArg (Value.int .i64) w1, ⟨?_⟩, HB⟩, ?_⟩
          · rw [HY.out, HN.out, if_neg (by rw [hno]; simp), if_pos (by rw [hno]; rfl), List.append_nil]
            exact HLt.out
          · rw [intOf_i64So, intOf_i64So, w1]
            exact meas_ltSo _ _ hkl
    · have hk2 : k = l0.length := by omega
      subst hk2
      have hlt := HLt.out
      rw [List.take_length] at hlt
      have HLT := Aside0.mk hlt
      clear hlt HLt
      go_wp2
      simp only [Exit.noGoto]
      go_ret2
      exact ⟨_, _, rfl, Kd.R_reok rfl HLT.out.ry (fun k hk e => HLT.out.ap k hk e.symm), Kd.R_reok rfl HLT.out.rn (fun k hk e => HLT.out.ap k e.symm hk), HB.out⟩
end

/-! ### span_walk: function 98 -/
-- by hand: cohousing/span.walk
section
open Go.Sort (grow alloc_eq_grow grow_grow)
def enc30 (x : S24) : List Value := [.int .i64 x.f0, .int .i64 x.f1]
/-- Blocks laid and draws made, nothing else. -/
def Grew (W w' : World) : Prop := ∃ q os, w' = grow (W.drewN q) os
theorem Grew.refl (W : World) : Grew W W := ⟨0, #[], by unfold grow; simp [World.drewN]⟩
theorem Grew.trans {a b c : World} (h : Grew a b) (k : Grew b c) : Grew a c := by
  obtain ⟨q, os, rfl⟩ := h
  obtain ⟨p, os', rfl⟩ := k
  refine ⟨q + p, os ++ os', ?_⟩
  unfold grow World.drewN
  simp [Array.append_assoc, Nat.add_assoc]
theorem Grew.alloc {a b : World} (h : Grew a b) (o : Obj) : Grew a (b.alloc o) := h.trans ⟨0, #[o], by rw [alloc_eq_grow]; unfold grow World.drewN; simp⟩
theorem Grew.drewN {a b : World} (h : Grew a b) (n : Nat) : Grew a (b.drewN n) := h.trans ⟨n, #[], by unfold grow; simp [World.drewN]⟩
theorem Grew.drew {a b : World} (h : Grew a b) : Grew a b.drew := h.drewN 1
theorem Grew.cell {a b : World} (h : Grew a b) {p : Addr} {v : Value} (hc : a.cell? p = some v) : b.cell? p = some v := by
  obtain ⟨q, os, rfl⟩ := h
  exact (Go.Sort.cell?_grow (a.drewN q) os p (World.block_lt_of_cell? a p hc)).trans hc
theorem Grew.below {a b : World} (h : Grew a b) : Below a.heap.size a b := by
  obtain ⟨q, os, rfl⟩ := h
  refine ⟨rfl, rfl, rfl, ?_, fun k hk => ?_⟩
  · simp [grow, World.drewN]
  · exact Go.Sort.heap_grow_old (a.drewN q) os hk
set_option maxHeartbeats 1000000 in
theorem clo32 (x : S24) (W : World) : Calls Tryz.prog 63 #[.agg #[.int .i64 x.f0, .int .i64 x.f1]] W fun e w' => e = .returned (.int .i64 x.f0) ∧ Grew W w' := by
  go_enter Tryz.func63, Tryz.ntmps63
  go_wp2
  go_ret
  exact ⟨rfl, (Grew.refl _).alloc _⟩
set_option maxHeartbeats 4000000 in
set_option maxRecDepth 100000 in
theorem clo46 (x y : S24) (B : Nat) (W : World) (hc : W.cell? ⟨B, 0, none⟩ = some (.func (.func 63) #[] #[])) : Calls Tryz.prog 96 #[.agg #[.int .i64 x.f0, .int .i64 x.f1], .agg #[.int .i64 y.f0, .int .i64 y.f1], .pointer (some ⟨B, 0, none⟩)] W fun e w' => e = .returned (.int .i64 (Lib.compareInt x.f0 y.f0)) ∧ Grew W w' := by
  have hcon := fun W' => Tryz.cmp_Compare_int x.f0 y.f0 W'
  generalize Lib.compareInt x.f0 y.f0 = r at hcon ⊢
  have hcon2 := Lib.hid hcon
  clear hcon
  go_enter Tryz.func96, Tryz.ntmps96
  go_wp2_with fail
  obtain ⟨W2, hW2⟩ : ∃ w_ : World, w_ = (W.alloc (Obj.cells #[Value.int IntKind.i64 x.f0, Value.int IntKind.i64 x.f1] 24)).alloc (Obj.cells #[Value.int IntKind.i64 y.f0, Value.int IntKind.i64 y.f1] 24) := ⟨_, rfl⟩
  have hg0 : Grew W W2 := by rw [hW2]; exact ((Grew.refl _).alloc _).alloc _
  have hb := World.block_lt_of_cell? W _ hc
  have c0 : W2.cell? ⟨B, 0, none⟩ = some (.func (.func 63) #[] #[]) := hg0.cell hc
  have c1 : W2.cell? ⟨W.heap.size, 0, none⟩ = some (.int .i64 x.f0) := by rw [hW2]; go_simp
  have c2 : W2.cell? ⟨W.heap.size, 1, none⟩ = some (.int .i64 x.f1) := by rw [hW2]; go_simp
  have c3 : W2.cell? ⟨W.heap.size + 1, 0, none⟩ = some (.int .i64 y.f0) := by rw [hW2]; go_simp
  have c4 : W2.cell? ⟨W.heap.size + 1, 1, none⟩ = some (.int .i64 y.f1) := by rw [hW2]; go_simp
  rw [← hW2]
  clear hW2
  generalize W.heap.size = b1 at *
  have hgw : Grew W2 W2 := Grew.refl _
  go_region_held3 (fun w' => w'.cell? ⟨B, 0, none⟩ = some (.func (.func 63) #[] #[]) ∧ w'.cell? ⟨b1, 0, none⟩ = some (.int .i64 x.f0) ∧ w'.cell? ⟨b1, 1, none⟩ = some (.int .i64 x.f1) ∧ w'.cell? ⟨b1 + 1, 0, none⟩ = some (.int .i64 y.f0) ∧ w'.cell? ⟨b1 + 1, 1, none⟩ = some (.int .i64 y.f1))
    (go_keep)
    (first
      | (go_at_call 63; refine (clo32 _ _).mono ?_; rintro e w2 ⟨rfl, hg⟩; have hgw : Grew W2 w2 := Grew.trans (by first | exact hgw | exact hgw.drew | exact hgw.drewN _) hg; have d0 := hgw.cell c0; have d1 := hgw.cell c1; have d2 := hgw.cell c2; have d3 := hgw.cell c3; have d4 := hgw.cell c4)
      | (go_at_call 58; refine (hcon2.out _).mono ?_; rintro e w2 ⟨rfl, rfl⟩))
  all_goals (go_wp2; go_ret; exact ⟨rfl, hg0.trans (by first | exact hgw | exact hgw.drew | exact hgw.drewN _)⟩)
/-- A variable that holds what is left of a list that lay in memory at the world w0. -/
def Box (w0 W : World) (B : Nat) (l : List S24) : Prop := w0.heap.size ≤ B ∧ ∃ A c, W.heap[B]? = some (.cells #[.slice A l.length c] 65 (0, 0)) ∧ l.length ≤ c ∧ Kd.C k24 w0 A l.length l
def pastD (l : List S24) (day : Int) : List S24 := l.dropWhile (fun s => decide (s.f1 ≤ day))
def inD (l : List S24) (day : Int) : Bool := match pastD l day with
  | [] => false
  | s :: _ => decide (s.f0 ≤ day)
theorem Box.cell {w0 W : World} {B : Nat} {l : List S24} (h : Box w0 W B l) : ∃ A c, W.cell? ⟨B, 0, none⟩ = some (.slice A l.length c) ∧ W.frozen? ⟨B, 0, none⟩ = false ∧ l.length ≤ c ∧ Kd.C k24 w0 A l.length l := by
  obtain ⟨_, A, c, hb, h1, h2⟩ := h
  exact ⟨A, c, (blk_cell hb 0).trans rfl, blk_frozen hb 0, h1, h2⟩
theorem Box.keep {w0 W W' : World} {B : Nat} {l : List S24} (h : Box w0 W B l) (hk : W'.heap[B]? = W.heap[B]?) : Box w0 W' B l := by
  obtain ⟨h0, A, c, hb, h1, h2⟩ := h
  exact ⟨h0, A, c, hk.trans hb, h1, h2⟩
theorem Box.drewN {w0 W : World} {B : Nat} {l : List S24} (h : Box w0 W B l) (n : Nat) : Box w0 (W.drewN n) B l := h
theorem Box.put {w0 W : World} {B : Nat} {l : List S24} (h : Box w0 W B l) (l' : List S24) (A : Option Addr) (c : Nat) (h1 : l'.length ≤ c) (h2 : Kd.C k24 w0 A l'.length l') (n : Nat) (hn : n = l'.length) : Box w0 (W.setCell ⟨B, 0, none⟩ (.slice A n c)) B l' := by
  obtain ⟨h0, A0, c0, hb, _, _⟩ := h
  subst hn
  refine ⟨h0, A, c, ?_, h1, h2⟩
  simp only [World.setCell]
  obtain ⟨hlt, e⟩ := Array.getElem?_eq_some_iff.mp hb
  rw [Array.getElem?_modify]
  simp [hlt, e]
theorem grown_set {w W : World} {B : Nat} (h : w.grownBy W (some B)) (v : Value) : w.grownBy (W.setCell ⟨B, 0, none⟩ v) (some B) := by
  refine ⟨h.os, h.tape, h.output, by simp [h.size], fun k hk hne => ?_⟩
  rw [← h.block k hk hne]
  simp only [World.setCell]
  rw [Array.getElem?_modify]
  rw [if_neg (fun e => hne (by rw [e]))]
theorem grown_drewN {w W : World} {B : Option Nat} (h : w.grownBy W B) (n : Nat) : w.grownBy (W.drewN n) B := ⟨h.os, h.tape, h.output, h.size, h.block⟩
theorem grown_drew {w W : World} {B : Option Nat} (h : w.grownBy W B) : w.grownBy W.drew B := ⟨h.os, h.tape, h.output, h.size, h.block⟩
theorem rd30_zero (s : S24) (r : List S24) : rd_T24 (s :: r) 0 = s := rfl
set_option maxHeartbeats 4000000 in
set_option maxRecDepth 100000 in
theorem clo64 (w0 W : World) (B : Nat) (l : List S24) (day : Int) (hB : Below w0.heap.size w0 W) (hx : Box w0 W B l) : Calls Tryz.prog 125 #[.int .i64 day, .pointer (some ⟨B, 0, none⟩)] W fun e w' => e = .returned (.bool (inD l day)) ∧ Box w0 w' B (pastD l day) ∧ W.grownBy w' (some B) := by
  have hu30 := Tryz.underlying24
  have HX := Lib.hid hx
  have HW := Lib.hid hB
  clear hx hB
  go_enter Tryz.func125, Tryz.ntmps125
  go_wp2
  go_loopg [] (l.length) (fun kq w' => ∃ l' : List S24, Aside0 (l'.length = kq ∧ pastD l' day = pastD l day ∧ Box w0 w' B l' ∧ W.grownBy w' (some B)))
  case atStart => exact ⟨l, ⟨rfl, rfl, HX.out, World.grownBy.refl _ _⟩⟩
  case round =>
    obtain ⟨l', hl⟩ := hrel
    obtain ⟨h1, h2, h3, h4⟩ := hl.out
    clear hl HX
    subst h1
    have hWB : Below w0.heap.size w0 wr := HW.out.grown h4 HW.out.size (fun k e => by cases e; exact h3.1)
    have H3 := Lib.hid h3
    have H4 := Lib.hid h4
    obtain ⟨A, c, hc, hf, hlen, hC⟩ := h3.cell
    clear h3 h4
    cases l' with
    | nil =>
      clear hC
      go_wp2
      go_ret
      refine ⟨?_, ?_, H4.out⟩
      · unfold inD
        rw [← h2]
        rfl
      · rw [← h2]
        exact H3.out
    | cons s r =>
      obtain ⟨ad, e, x0, x1⟩ := at_T24 hC 0 (by omega) (by simp)
      subst e
      rw [rd30_zero] at x0 x1
      have y0 := (hWB.cell (World.block_lt_of_cell? w0 _ x0)).trans x0
      have y1 := (hWB.cell (World.block_lt_of_cell? w0 _ x1)).trans x1
      have ea : ad.add ((0 : Int).toNat * 2) = ad := by simp [Addr.add]
      rw [ea] at y0 y1
      clear ea x0 x1
      have HC := Lib.hid hC
      have HWB := Lib.hid hWB
      have H2 := Lib.hid h2
      clear hC hWB h2
      by_cases hd : s.f1 ≤ day
      · have hd1 : decide (s.f1 ≤ day) = true := decide_eq_true hd
        have hp : pastD (s :: r) day = pastD r day := by unfold pastD; rw [List.dropWhile_cons, hd1]; rfl
        have hlr : r.length + 1 ≤ c := hlen
        have hD := Lib.hid (Kd.C_drop (m := 1) (c := c) HC.out (by simp) hlen)
        go_wp2
        case inl =>
          have hc1 : c = 1 := by assumption
          subst hc1
          go_roundg r.length
          case measure => simp
          case rel => exact ⟨r, ⟨rfl, hp.symm.trans H2.out, H3.out.put r (some ad) 0 (by omega) (by have := hD.out; rw [if_pos rfl] at this; exact this) _ rfl, grown_set H4.out _⟩⟩
        case inr =>
          have hc1 : ¬ c = 1 := by assumption
          go_roundg r.length
          case measure => simp
          case rel => exact ⟨r, ⟨rfl, hp.symm.trans H2.out, H3.out.put r (some ⟨ad.block, ad.off + 2, none⟩) (c - 1) (by omega) (by have := hD.out; rw [if_neg hc1] at this; have e_ : (some ad : Option Addr).map (·.add (1 * k24.sz)) = some ⟨ad.block, ad.off + 2, none⟩ := (by show some (ad.add 2) = _; simp [Addr.add]); rw [e_] at this; exact this) _ rfl, grown_set H4.out _⟩⟩
      · have hd1 : decide (s.f1 ≤ day) = false := decide_eq_false hd
        have hp : pastD (s :: r) day = s :: r := by unfold pastD; rw [List.dropWhile_cons, hd1]; rfl
        by_cases hb : s.f0 ≤ day
        · have hb1 : decide (s.f0 ≤ day) = true := decide_eq_true hb
          go_wp2
          go_ret
          refine ⟨?_, ?_, H4.out⟩
          · unfold inD
            rw [← H2.out, hp]
            simp [hb1]
          · rw [← H2.out, hp]
            exact H3.out
        · have hb1 : decide (s.f0 ≤ day) = false := decide_eq_false hb
          go_wp2
          go_ret
          refine ⟨?_, ?_, H4.out⟩
          · unfold inD
            rw [← H2.out, hp]
            simp [hb1]
          · rw [← H2.out, hp]
            exact H3.out
theorem walk49 (A : Option Addr) (n c : Nat) (W : World) : Calls Tryz.prog 98 #[.slice A n c] W fun e w' => e = .returned (.func (.func 125) #[] #[.pointer (some ⟨W.heap.size, 0, none⟩)]) ∧ w' = W.alloc (.cells #[.slice A n c] 65) := by
  go_enter Tryz.func98, Tryz.ntmps98
  go_wp2
  go_ret
  exact ⟨rfl, rfl⟩

theorem by31 (W : World) : Calls Tryz.prog 62 #[.func (.func 63) #[] #[]] W fun e w' => e = .returned (.func (.func 96) #[] #[.pointer (some ⟨W.heap.size, 0, none⟩)]) ∧ w' = W.alloc (.cells #[.func (.func 63) #[] #[]] 96) := by
  go_enter Tryz.func62, Tryz.ntmps62
  go_wp2
  go_ret
  exact ⟨rfl, rfl⟩

instance inh30 : Inhabited S24 := ⟨z24⟩

def dayIn (day : Int) (s : S24) : Bool := decide (s.f0 ≤ day) && decide (day < s.f1)

theorem spot_none {w : World} {a : Addr} {v : Value} (h : w.cell? a = some v) : a.spot = none := by
  unfold World.cell? at h
  split at h
  · split at h
    · cases h
    · rename_i hs
      simpa using hs
  · cases h

theorem row30 {w : World} {A : Option Addr} {l : List S24} (h : Kd.C k24 w A l.length l) (hne : 0 < l.length) : ∃ b off, A = some ⟨b, off, none⟩ ∧ b < w.heap.size ∧ ∀ j, j < l.length → w.cell? ⟨b, off + j * 2, none⟩ = some (.int .i64 (l[j]!).f0) ∧ w.cell? ⟨b, off + j * 2 + 1, none⟩ = some (.int .i64 (l[j]!).f1) := by
  obtain ⟨ad, e, x0, _⟩ := at_T24 h 0 (by omega) (by omega)
  have ea : ad.add ((0 : Int).toNat * 2) = ad := by simp [Addr.add]
  rw [ea] at x0
  have hs := spot_none x0
  refine ⟨ad.block, ad.off, by rw [e, ← hs], World.block_lt_of_cell? w _ x0, ?_⟩
  intro j hj
  obtain ⟨ad2, e2, y0, y1⟩ := at_T24 h (j : Int) (by omega) (by omega)
  rw [e] at e2
  obtain rfl := Option.some.inj e2
  have eb : ad.add ((j : Int).toNat * 2) = ⟨ad.block, ad.off + j * 2, none⟩ := by
    rw [Int.toNat_natCast]
    unfold Addr.add
    split
    · rename_i h0
      cases ad
      simp_all
    · rfl
  rw [eb] at y0 y1
  have er : rd_T24 l (j : Int) = l[j]! := by
    unfold rd_T24
    rw [Int.toNat_natCast, List.getD_eq_getElem?_getD, List.getElem?_eq_getElem hj, getElem!_pos l j hj]
    rfl
  rw [er] at y0 y1
  exact ⟨y0, y1⟩

end

end Go.Proofs.YtnkgnjklkocojaaGreatDoor.X
