-- Written by a program of mine (wip/tools/xprint.py) over the kit's print.py: printed functions and hand-proved ones side by side.
import Derived.Test.YthcjocojngochaaGreatDoorXx0
import Derived.Test.YthcjocojngochaaGreatDoorXx1
import Derived.Test.YthcjocojngochaaGreatDoorXx9
import Derived.Test.YthcjocojngochaaGreatDoorXx11
import Derived.Test.YthcjocojngochaaGreatDoorXx12
import Derived.Test.YthcjocojngochaaGreatDoorXx13
namespace Go.Proofs.YthcjocojngochaaGreatDoor.X
open Go.RowKit Go.Proofs.YthcjocojngochaaGreatDoorW.PrintWords Go.Proofs.YthcjocojngochaaGreatDoorW.PrintLast Go.Proofs.YthcjocojngochaaGreatDoorW.PrintMore
attribute [local go_sem] max2_int min2_int max_two min_two max_three min_three max_four min_four   -- for this text's walks alone
set_option linter.unusedVariables false
set_option linter.unusedSimpArgs false

attribute [local go_sem high] eqA24
/-! ### facts_Days: function 13 -/
-- by hand: cohousing/facts.Days
section
/-- The days at which what is known can change. -/
def cutsR (zs : List S26) : List Int := endsF [⟨0, 36525⟩] (zs.map (·.f3))
/-- The stretches between cuts that are kept. -/
def keptR (q : Int → Bool) : List Int → List S24
  | a :: b :: r => if q a then ⟨a, b⟩ :: keptR q (b :: r) else keptR q (b :: r)
  | _ => []
def dayQ (zs : List S26) (value known d : Int) : Bool := (onF zs d known).2 && (onF zs d known).1 == value
def facts_Days.f (l0 : List S26) (a1 : Int) (a2 : ByteArray) (a3 a4 : Int) : Option (List S24 × Int) :=
  if l0.length < 4398046511104 then some (if argB l0 a1 a2 [a4] then normF (keptR (dayQ (ownS l0 a1 a2) a3 a4) (cutsR (ownS l0 a1 a2))) else ([], 1)) else none
section
open Go.Shelf
open Go.Lib (compact)
open Go.Sort (grow alloc_eq_grow grow_grow Holds putRow flatK HoldsK putRowK setMany get_setMany size_setMany get_flatK size_flatK ext_get! blk_iff)
theorem kept_snoc (q : Int → Bool) : ∀ (l : List Int) (a b : Int), keptR q (l ++ [a, b]) = keptR q (l ++ [a]) ++ (if q a then [⟨a, b⟩] else [])
  | [], a, b => by
    show (if q a then (⟨a, b⟩ : S24) :: [] else []) = _
    cases q a <;> rfl
  | [x], a, b => by
    show (if q x then (⟨x, a⟩ : S24) :: (if q a then (⟨a, b⟩ : S24) :: [] else []) else (if q a then (⟨a, b⟩ : S24) :: [] else [])) = (if q x then (⟨x, a⟩ : S24) :: [] else []) ++ _
    cases q x <;> cases q a <;> rfl
  | x :: y :: r, a, b => by
    have ih := kept_snoc q (y :: r) a b
    have e1 : keptR q (x :: y :: r ++ [a, b]) = if q x then ⟨x, y⟩ :: keptR q (y :: r ++ [a, b]) else keptR q (y :: r ++ [a, b]) := rfl
    have e2 : keptR q (x :: y :: r ++ [a]) = if q x then ⟨x, y⟩ :: keptR q (y :: r ++ [a]) else keptR q (y :: r ++ [a]) := rfl
    rw [e1, e2, ih]
    cases q x <;> simp
theorem kept_take (q : Int → Bool) (cs : List Int) (i : Nat) (h : i + 1 < cs.length) : keptR q (cs.take (i + 2)) = keptR q (cs.take (i + 1)) ++ (if q (cs.getD i 0) then [⟨cs.getD i 0, cs.getD (i + 1) 0⟩] else []) := by
  have h0 : i < cs.length := by omega
  have e1 : cs.take (i + 1) = cs.take i ++ [cs.getD i 0] := by rw [List.take_succ_eq_append_getElem h0]; simp [List.getD_eq_getElem?_getD, List.getElem?_eq_getElem h0]
  have e2 : cs.take (i + 2) = cs.take i ++ [cs.getD i 0, cs.getD (i + 1) 0] := by rw [List.take_succ_eq_append_getElem h, e1]; simp [List.getD_eq_getElem?_getD, List.getElem?_eq_getElem h]
  rw [e1, e2, kept_snoc]
theorem kept_len (q : Int → Bool) : ∀ cs : List Int, (keptR q cs).length ≤ cs.length
  | [] => Nat.le_refl _
  | [_] => Nat.zero_le _
  | a :: b :: r => by
    have ih := kept_len q (b :: r)
    have e1 : keptR q (a :: b :: r) = if q a then ⟨a, b⟩ :: keptR q (b :: r) else keptR q (b :: r) := rfl
    rw [e1]
    cases q a <;> simp at ih ⊢ <;> omega
theorem add_suc (a : Addr) (i : Nat) : a.add (i + 1) = ⟨a.block, a.off + (i + 1), none⟩ := by
  unfold Addr.add
  simp
theorem cuts_pos (zs : List S26) : 0 < (cutsR zs).length := by
  have h : ∀ l : List Int, l ≠ [] → 0 < (Lib.compact l).length := by
    intro l hl
    obtain ⟨n, hn⟩ : ∃ n, l.length = n + 1 := ⟨l.length - 1, by have := List.length_pos_iff.mpr hl; omega⟩
    have key : ∀ m, 0 < (Lib.compactUpTo l.toArray (m + 1)).length := by
      intro m
      induction m with
      | zero =>
        rw [Lib.compactUpTo_succ, List.length_append]
        have : Lib.keeps l.toArray 0 = true := by simp [Lib.keeps]
        rw [this]
        simp
      | succ m ih =>
        rw [Lib.compactUpTo_succ, List.length_append]
        omega
    unfold Lib.compact
    rw [hn]
    exact key n
  refine h _ ?_
  have : (sorted (flZ [⟨0, 36525⟩] ++ flZ (zs.map (·.f3)))).length = 2 + (flZ (zs.map (·.f3))).length := by
    rw [sorted_len, List.length_append]
    rfl
  intro e
  rw [e, List.length_nil] at this
  omega
theorem cuts_len (zs : List S26) : (cutsR zs).length ≤ 2 + 2 * zs.length := by
  have := endsF_len [⟨0, 36525⟩] (zs.map (·.f3))
  simpa [cutsR] using this
theorem at_cut {w : World} {A : Option Addr} {n : Nat} {xs : List Int} (h : Kd.C (Kd.int .i64) w A n xs) (i : Nat) (hi : i < n) : ∃ ad, A = some ad ∧ w.cell? (ad.add i) = some (.int .i64 (xs.getD i 0)) := by
  obtain ⟨ad, c, e, _, hK, hc⟩ := Kd.C_get h 0 (i : Int) (by omega) (by omega)
  have hK' : c = [.int .i64 (xs.getD i 0)] := by
    have := hK
    rw [Int.toNat_natCast] at this
    exact this
  subst hK'
  have := hc 0 _ rfl
  rw [Int.toNat_natCast] at this
  exact ⟨ad, e, by simpa [Kd.int, Kd.scalar] using this⟩
set_option maxHeartbeats 8000000 in
set_option maxRecDepth 100000 in
theorem where37 (A : Option Addr) (c : Nat) (zs : List S26) (g : Nat) (lb : Array Value) (q : Int → Bool) (w : World) (hrow : Kd.C k26 w A zs.length zs) (hlen : zs.length ≤ 4000) (eg : ∀ args w, (callFunc g args).run Tryz.prog w = .ok (.enter g args) w)
    (hq : ∀ W day, Below w.heap.size w W → Calls Tryz.prog g (#[.int .i64 day] ++ lb) W fun e w' => e = .returned (.bool (q day)) ∧ Below W.heap.size W w') :
    Calls Tryz.prog 37 #[.agg #[.slice A zs.length c], .func (.func g) #[] lb] w fun e w' => ∃ v, e = .returned (.tuple #[v, .int .i64 (normF (keptR q (cutsR zs))).2]) ∧ Kd.R k24 24 w' w.heap.size (fun _ => True) v (normF (keptR q (cutsR zs))).1 ∧ Below w.heap.size w w' := by
  have HR := Aside0.mk hrow
  have HQ := Aside0.mk hq
  have HL := Aside0.mk hlen
  clear hrow hq hlen
  go_enter Tryz.func37, Tryz.ntmps37
  go_wp2_with fail
  obtain ⟨W1, hW1⟩ : ∃ w_ : World, w_ = ((w.alloc (Obj.cells #[Value.slice A zs.length c] 55)).alloc (Obj.cells #[Value.int IntKind.i64 0, Value.int IntKind.i64 36525] 3)) := ⟨_, rfl⟩
  have hB1 : Below w.heap.size w W1 := by rw [hW1]; with_reducible repeat first | exact Below.refl _ _ | apply below_alloc
  have hO1 : W1.ownsRow w.heap.size 3 1 (.slice (some ⟨w.heap.size + 1, 0, none⟩) 2 2) (2 + 2 * 0) ([.int .i64 0, .int .i64 36525] ++ fl (((zs.take 0).map (·.f3)))) := by
    refine ⟨rfl, .inr ⟨w.heap.size + 1, 2, #[.int .i64 0, .int .i64 36525], rfl, by omega, ?_, Nat.le_refl _, by decide, rfl, rfl⟩⟩
    rw [hW1]
    have := World.alloc_heap_new (w.alloc (Obj.cells #[Value.slice A zs.length c] 55)) (Obj.cells #[Value.int IntKind.i64 0, Value.int IntKind.i64 36525] 3)
    rwa [World.size_alloc] at this
  rw [← hW1]
  clear hW1
  have HO1 := Aside0.mk hO1
  have HB1 := Aside0.mk hB1
  clear hO1 hB1
  go_loopg [6, 16] (zs.length) (fun kq v6 v16 w' => ∃ j : Nat, v16 = .int .i64 j ∧ Aside0 (j + kq = zs.length ∧ w'.ownsRow w.heap.size 3 1 v6 (2 + 2 * j) ([.int .i64 0, .int .i64 36525] ++ fl ((zs.take j).map (·.f3))) ∧ Below w.heap.size w w'))
  case atStart => exact ⟨0, rfl, ⟨by omega, HO1.out, HB1.out⟩⟩
  case round =>
    obtain ⟨j, rfl, hj⟩ := hrel
    obtain ⟨hk2, hO2, hB2⟩ := hj.out
    clear hj HO1 HB1
    have HO2 := Lib.hid hO2
    have HB2 := Lib.hid hB2
    clear hO2 hB2
    by_cases hlt : j < zs.length
    · obtain ⟨ad, e, x0, x1, x2, x3, x4, x5, x6⟩ := at_T26 HR.out (j : Int) (by omega) (by omega)
      subst e
      replace x0 := (HB2.out.cell (World.block_lt_of_cell? w _ x0)).trans x0
      replace x1 := (HB2.out.cell (World.block_lt_of_cell? w _ x1)).trans x1
      replace x2 := (HB2.out.cell (World.block_lt_of_cell? w _ x2)).trans x2
      replace x3 := (HB2.out.cell (World.block_lt_of_cell? w _ x3)).trans x3
      replace x4 := (HB2.out.cell (World.block_lt_of_cell? w _ x4)).trans x4
      replace x5 := (HB2.out.cell (World.block_lt_of_cell? w _ x5)).trans x5
      replace x6 := (HB2.out.cell (World.block_lt_of_cell? w _ x6)).trans x6
      rw [Int.toNat_natCast] at x0 x1 x2 x3 x4 x5 x6
      have hfl2 := Lib.hid (show fl ((zs.take (j + 1)).map (·.f3)) = fl ((zs.take j).map (·.f3)) ++ [.int .i64 (rd_T26 zs (j : Int)).f3.f0, .int .i64 (rd_T26 zs (j : Int)).f3.f1] by
        rw [show rd_T26 zs (j : Int) = zs[j] by simp [rd_T26, List.getD_eq_getElem?_getD, List.getElem?_eq_getElem hlt], List.take_succ_eq_append_getElem hlt, List.map_append]
        unfold fl
        rw [List.flatMap_append]
        rfl)
      have q1 : decide ((j : Int) < (zs.length : Int)) = true := decide_eq_true (by omega)
      have q0 : decide ((0 : Int) ≤ (j : Int)) = true := decide_eq_true (by omega)
      have q2 : ((j : Int) < (zs.length : Int)) = True := eq_true (by omega)
      have q3 : ((0 : Int) ≤ (j : Int)) = True := eq_true (by omega)
      have HLe := Lib.hid (show (2 + 2 * j + 2) * 8 ≤ 140737488355328 by have := HL.out; omega)
      have HLn := Lib.hid (show (([.int .i64 0, .int .i64 36525] : List Value) ++ fl ((zs.take j).map (fun s : S26 => s.f3))).length = 2 + 2 * j by
        rw [List.length_append, fl_len, List.length_map, List.length_take]
        simp only [List.length_cons, List.length_nil]
        omega)
      have hsz := HB2.out.size
      generalize hrx : rd_T26 zs (j : Int) = x at *
      clear hrx
      go_wp2_with (first
        | ((with_reducible refine gate_builtin (b := .append) (xs := #[.tmp 20, .tmp 27]) rfl ?_); at_builtin; refine print_append2 (w0 := w) (W := wr.alloc (.cells (vals26 x) 26)) w.heap.size rfl (.tmp 20) (.tmp 27) 44 3 (.int .i64 0) 8 rfl Tryz.underlying44 (by kernel_rfl) rfl (by decide) u6 _ _ HLn.out _ _ rfl (by first | (go_simp; done) | (go_simp; rfl)) rfl rfl (HO2.out.alloc _) (below_alloc HB2.out _) (by simp; omega) HLe.out ?_; intro v1 w1 ho hb; have HO3 := Lib.hid ho; have HB3 := Lib.hid hb; clear ho hb))
      go_roundg (gk - 1)
      case measure => omega
      case rel => exact ⟨j + 1, by have h4 := HL.out; (have hw : wrap64 ((j : Int) + 1) = ((j + 1 : Nat) : Int) := by (unfold wrap64; omega)); rw [hw], ⟨by omega, by rw [hfl2.out, ← List.append_assoc]; exact HO3.out, HB3.out⟩⟩
    · have hj : j = zs.length := by omega
      subst hj
      have hO3 := HO2.out
      rw [List.take_length] at hO3
      have e9 : ([.int .i64 0, .int .i64 36525] ++ fl (zs.map (·.f3)) : List Value) = (flZ [⟨0, 36525⟩] ++ flZ (zs.map (·.f3))).map (Value.int .i64) := by
        rw [List.map_append, ← fl_map, ← fl_map]
        rfl
      have l9 : (flZ [⟨0, 36525⟩] ++ flZ (zs.map (·.f3))).length = 2 + 2 * zs.length := by
        rw [List.length_append, flZ_len, flZ_len, List.length_map]
        rfl
      rw [e9, ← l9] at hO3
      have HSC := Lib.hid (sort_compact w wr u6 _ hO3 HB2.out (by rw [l9]; have := HL.out; omega))
      clear hO3 HO2
      have q1 : decide ((zs.length : Int) < (zs.length : Int)) = false := decide_eq_false (by omega)
      have q2 : ((zs.length : Int) < (zs.length : Int)) = False := eq_false (by omega)
      go_wp2_with fail
      refine HSC.out.mono ?_
      rintro e w2 ⟨rfl, hb2, hc2⟩
      have HC3 := Lib.hid hc2
      clear hc2 hb2 HSC
      go_wp2_with fail
      refine HC3.out.mono ?_
      rintro e w3 ⟨Ac, cc, rfl, hcc, hC3, hb3⟩
      have hcs : Lib.compact (sorted (flZ [⟨0, 36525⟩] ++ flZ (zs.map (·.f3)))) = cutsR zs := rfl
      rw [hcs] at hcc hC3 ⊢
      have hm1 := cuts_pos zs
      have hm2 := cuts_len zs
      have HCC := Aside0.mk hC3
      have HB3 := Aside0.mk hb3
      have HM := Aside0.mk (And.intro hm1 hm2)
      have hl9 := HL.out
      clear HC3 hC3 hb3 e9 hm2 q1 q2
      generalize hcsg : cutsR zs = cs at *
      have HE := Aside0.mk hcsg
      clear hcsg hcs
      have hm3 : cs.length ≤ 8002 := by have := HM.out.2; omega
      have HM3 := Aside0.mk hm3
      clear hl9 HM
      have hs1 : (0 : Int) ≤ (cs.length : Int) - 1 := by omega
      have hs2 : (cs.length : Int) - 1 ≤ (cc : Int) := by omega
      obtain ⟨m, hm⟩ : ∃ m, cs.length = m + 1 := ⟨cs.length - 1, by omega⟩
      have HMM := Aside0.mk hm
      rw [hm] at hcc hs1 hs2 hm1 ⊢
      go_wp2
      have HQ3 := Aside0.mk (fun (W : World) (day : Int) (hb : Below w3.heap.size w3 W) => HQ.out W day (HB3.out.trans (hb.mono HB3.out.size)))
      clear HQ
      go_loopg [9, 40] m (fun kq v9 v40 w' => ∃ i : Nat, v40 = .int .i64 i ∧ Aside0 (i + kq = m ∧ Kd.R k24 24 w' w3.heap.size (fun _ => True) v9 (keptR q (cs.take (i + 1))) ∧ Below w3.heap.size w3 w'))
      case atStart =>
        have e0 : keptR q (cs.take (0 + 1)) = [] := by
          cases cs with
          | nil => rfl
          | cons a r => rfl
        exact ⟨0, rfl, ⟨by omega, by rw [e0]; exact Kd.R_nil _ _ _ _ _, Below.refl _ _⟩⟩
      case round =>
        obtain ⟨i, rfl, hi⟩ := hrel
        obtain ⟨hk3, hR3, hBi⟩ := hi.out
        clear hi
        have HRi := Aside0.mk hR3
        have HBi := Aside0.mk hBi
        obtain ⟨Ao, co, eo⟩ := Kd.R_slice hR3
        subst eo
        have hlk : (keptR q (cs.take (i + 1))).length ≤ 8002 := Nat.le_trans (kept_len q _) (by rw [List.length_take]; have := HM3.out; omega)
        clear hR3
        by_cases hlt : i < m
        · obtain ⟨adc, ec, y0⟩ := at_cut HCC.out i (by have := HMM.out; omega)
          obtain ⟨adc', ec', y1⟩ := at_cut HCC.out (i + 1) (by have := HMM.out; omega)
          rw [ec] at ec'
          obtain rfl := Option.some.inj ec'
          subst ec
          replace y0 := (HBi.out.cell (World.block_lt_of_cell? w3 _ y0)).trans y0
          replace y1 := (HBi.out.cell (World.block_lt_of_cell? w3 _ y1)).trans y1
          have hkt := Lib.hid (kept_take q cs i (by have := HMM.out; omega))
          generalize cs.getD i 0 = a at *
          generalize cs.getD (i + 1) 0 = b at *
          have hcall := HQ3.out wr a HBi.out
          have q1 : decide ((i : Int) < (m : Int)) = true := decide_eq_true (by omega)
          have q0 : decide ((0 : Int) ≤ (i : Int)) = true := decide_eq_true (by omega)
          have q2 : ((i : Int) < (m : Int)) = True := eq_true (by omega)
          have q3 : ((0 : Int) ≤ (i : Int)) = True := eq_true (by omega)
          have hm8 : m ≤ 8002 := by have := HM3.out; omega
          cases hqa : q a with
          | false =>
            rw [hqa] at hcall
            go_wp2_with (go_at_fn g; refine hcall.mono ?_; rintro e w5 ⟨rfl, hb5⟩)
            go_roundg (gk - 1)
            case measure => omega
            case rel => exact ⟨i + 1, by go_num, ⟨by omega, by rw [hkt.out, hqa]; simpa using Kd.R_below HRi.out hb5, below_step HBi.out hb5⟩⟩
          | true =>
            rw [hqa] at hcall
            go_wp2_with (first | (go_at_fn g; refine hcall.mono ?_; rintro e w5 ⟨rfl, hb5⟩; replace y1 := (hb5.cell (World.block_lt_of_cell? wr _ y1)).trans y1; rw [add_suc] at y1; have HB5 := Aside0.mk (below_step HBi.out hb5); have HR5 := Aside0.mk (Kd.R_below HRi.out hb5); clear hb5) | ((with_reducible refine gate_builtin (b := .append) (xs := #[.tmp 48, .tmp 56]) rfl ?_); at_builtin; refine Kd.R_append k24 (w0 := w3) (W := w5) w3.heap.size rfl (.tmp 48) (.tmp 56) 33 24 (.agg #[(.int .i64 0), (.int .i64 0)]) 16 rfl Tryz.underlying33 info24 rfl (by decide) (by omega) (.slice Ao (keptR q (cs.take (i + 1))).length co) (keptR q (cs.take (i + 1))) (⟨a, b⟩ : S24) [.int .i64 a, .int .i64 b] (fun _ => True) (fun _ => False) rfl rfl (k24_mkM _ _ _ (⟨a, b⟩ : S24)) (fun _ hk => hk.elim) (fun _ _ => trivial) HR5.out HB5.out HB5.out.size (by omega) ?_; intro v1 w6 ho hb _ _; have HR6 := Aside0.mk ho; have HB6 := Aside0.mk hb; clear ho hb))
            go_roundg (gk - 1)
            case measure => omega
            case rel => exact ⟨i + 1, by go_num, ⟨by omega, by rw [hkt.out, hqa]; exact HR6.out, HB6.out⟩⟩
        · have hi2 : i = m := by omega
          subst hi2
          have hfull : cs.take (i + 1) = cs := List.take_of_length_le (by have := HMM.out; omega)
          rw [hfull] at HRi hlk
          have hfn : span_Normal.f (keptR q cs) = some ((normF (keptR q cs)).1, (normF (keptR q cs)).2) := by
            unfold span_Normal.f
            rw [if_pos (by omega)]
          obtain ⟨A9, c9, e9, h9, hC9⟩ := Kd.R_reads HRi.out
          have HN := Lib.hid (span_Normal.calls A9 c9 (keptR q cs) _ _ wr hC9 h9 hfn)
          rw [hfull, e9]
          have q1 : decide ((i : Int) < (i : Int)) = false := decide_eq_false (by omega)
          have q2 : ((i : Int) < (i : Int)) = False := eq_false (by omega)
          clear e9 hfull
          go_wp2_with (go_at_call 27; refine HN.out.mono ?_; rintro e w7 ⟨v7, rfl, hR7, hb7⟩)
          (try simp only [Exit.inBlock, Exit.then])
          refine bodyPost_ret (results_tmp2 rfl _ _ _) rfl ?_
          have hs7 := HBi.out.size
          have hs8 := HB3.out.size
          rw [HE.out]
          exact ⟨v7, rfl, Kd.R_lower hR7 (by omega), HB3.out.trans ((below_step HBi.out hb7).mono hs8)⟩
set_option maxHeartbeats 4000000 in
theorem clo38 (Bf Bk Bv : Nat) (A : Option Addr) (c : Nat) (zs : List S26) (value known day : Int) (W : World) (hf : W.cell? ⟨Bf, 0, none⟩ = some (.slice A zs.length c)) (hk : W.cell? ⟨Bk, 0, none⟩ = some (.int .i64 known)) (hv : W.cell? ⟨Bv, 0, none⟩ = some (.int .i64 value)) (hrow : Kd.C k26 W A zs.length zs) (hlen : zs.length < 4398046511104) :
    Calls Tryz.prog 38 #[.int .i64 day, .pointer (some ⟨Bf, 0, none⟩), .pointer (some ⟨Bk, 0, none⟩), .pointer (some ⟨Bv, 0, none⟩)] W fun e w' => e = .returned (.bool (dayQ zs value known day)) ∧ Below W.heap.size W w' := by
  have hon := Lib.hid (on36 A c zs day known W hlen hrow)
  have lv := World.block_lt_of_cell? W _ hv
  have hv2 := Lib.hid hv
  clear hv
  unfold dayQ
  generalize onF zs day known = r at *
  clear hrow
  cases h1 : r.2 with
  | false =>
    rw [h1] at hon
    go_enter Tryz.func38, Tryz.ntmps38
    go_wp2_with (go_at_call 36; refine hon.out.mono ?_; rintro e w2 ⟨rfl, hb⟩)
    go_ret
    exact ⟨rfl, hb⟩
  | true =>
    rw [h1] at hon
    cases h2 : (r.1 == value) <;>
    · go_enter Tryz.func38, Tryz.ntmps38
      go_wp2_with (go_at_call 36; refine hon.out.mono ?_; rintro e w2 ⟨rfl, hb⟩; have hv3 := (hb.cell (p := ⟨Bv, 0, none⟩) lv).trans hv2.out)
      go_ret
      exact ⟨by first | rfl | simp [h2], hb⟩
theorem argB_len {l : List S26} {home : Int} {name : ByteArray} {ds : List Int} (h : argB l home name ds = true) : l.length ≤ 4000 := by
  unfold argB validB at h
  simp at h
  exact h.1.1.1.1
set_option maxHeartbeats 8000000 in
set_option maxRecDepth 100000 in
theorem facts_Days.calls (A0 : Option Addr) (c0 : Nat) (l0 : List S26) (a1 : Int) (a2 : ByteArray) (a3 a4 : Int) (r1 : List S24) (r2 : Int) (w : World) (hr0 : Kd.C k26 w A0 l0.length l0) (hc0 : l0.length ≤ c0) (h : facts_Days.f l0 a1 a2 a3 a4 = some (r1, r2)) :
    Calls Tryz.prog 13 #[.slice A0 l0.length c0, .int .i64 a1, .string a2, .int .i64 a3, .int .i64 a4] w fun e w' => ∃ v0_ : Value, e = .returned (.tuple #[v0_, .int .i64 r2]) ∧ Kd.R k24 24 w' w.heap.size (fun _ => True) v0_ r1 ∧ Below w.heap.size w w' := by
  unfold facts_Days.f at h
  split at h
  case isFalse => exact absurd h (by simp)
  rename_i hlen
  have H := Aside0.mk (Option.some.inj h)
  have HR0 := Aside0.mk hr0
  have HC0 := Aside0.mk hc0
  clear h hr0 hc0
  go_enter Tryz.func13, Tryz.ntmps13
  go_wp2_with fail
  obtain ⟨W1, hW1⟩ : ∃ w_ : World, w_ = ((w.alloc (Obj.cells #[Value.int IntKind.i64 a3] 3)).alloc (Obj.cells #[Value.int IntKind.i64 a4] 3)).alloc (Obj.cells #[Value.int IntKind.i64 a4] 3) := ⟨_, rfl⟩
  have hsz : w.heap.size + 3 = W1.heap.size := by rw [hW1]; simp
  have hB1 : Below w.heap.size w W1 := by rw [hW1]; with_reducible repeat first | exact Below.refl _ _ | apply below_alloc
  have a1' : W1.cell? ⟨w.heap.size, 0, none⟩ = some (.int .i64 a3) := by rw [hW1]; go_simp
  have a2' : W1.cell? ⟨w.heap.size + 1, 0, none⟩ = some (.int .i64 a4) := by rw [hW1]; go_simp
  have a3' : W1.cell? ⟨w.heap.size + 1 + 1, 0, none⟩ = some (.int .i64 a4) := by rw [hW1]; go_simp
  rw [← hW1]
  clear hW1
  have K1 := Aside0.mk a1'
  have K2 := Aside0.mk a2'
  have HB1 := Aside0.mk hB1
  refine (of35 A0 c0 l0 a1 a2 (w.heap.size + 1 + 1) 1 [a4] W1 (Kd.C_below HR0.out hB1) HC0.out hlen (fun j hj => ?_) (by simp) (by omega)).mono ?_
  · have hj2 : j = 0 := by simp at hj; omega
    subst hj2
    exact a3'
  clear a1' a2' a3' hB1
  rintro e w2 ⟨hb2, ⟨ha, A, c, rfl, hC⟩ | ⟨ha, rfl⟩⟩
  · have H2 := H.out
    rw [if_pos ha] at H2
    have h4 := argB_len ha
    have hl2 : (ownS l0 a1 a2).length ≤ 4000 := Nat.le_trans (ownS_len _ _ _) h4
    generalize ownS l0 a1 a2 = zs at *
    have hb2' : Below W1.heap.size W1 (w2.alloc (Obj.cells #[Value.slice A zs.length c] 55)) := below_alloc hb2 _
    have hs2 := hb2.size
    have f1 : (w2.alloc (Obj.cells #[Value.slice A zs.length c] 55)).cell? ⟨w2.heap.size, 0, none⟩ = some (.slice A zs.length c) := by go_simp
    have f2 := (hb2'.cell (p := ⟨w.heap.size + 1, 0, none⟩) (by show w.heap.size + 1 < _; omega)).trans K2.out
    have f3 := (hb2'.cell (p := ⟨w.heap.size, 0, none⟩) (by show w.heap.size < _; omega)).trans K1.out
    have hC2 := Kd.C_below hC (below_alloc (Below.refl _ w2) (Obj.cells #[Value.slice A zs.length c] 55))
    have HW := Lib.hid (where37 A c zs 38 #[.pointer (some ⟨w2.heap.size, 0, none⟩), .pointer (some ⟨w.heap.size + 1, 0, none⟩), .pointer (some ⟨w.heap.size, 0, none⟩)] (dayQ zs a3 a4) (w2.alloc (Obj.cells #[Value.slice A zs.length c] 55)) hC2 hl2 (enters_of Tryz.func38 (by kernel_rfl) rfl)
      (fun V day hV => clo38 w2.heap.size (w.heap.size + 1) w.heap.size A c zs a3 a4 day V ((hV.cell (p := ⟨w2.heap.size, 0, none⟩) (World.block_lt_of_cell? _ _ f1)).trans f1) ((hV.cell (p := ⟨w.heap.size + 1, 0, none⟩) (World.block_lt_of_cell? _ _ f2)).trans f2) ((hV.cell (p := ⟨w.heap.size, 0, none⟩) (World.block_lt_of_cell? _ _ f3)).trans f3) (Kd.C_below hC2 hV) (by omega)))
    have HB2 := Aside0.mk (HB1.out.trans (hb2'.mono (by omega)))
    clear f1 f2 f3 hC2 hb2' hb2 hC H
    go_wp2_with (go_at_call 37; refine HW.out.mono ?_; rintro e w7 ⟨v7, rfl, hR7, hb7⟩)
    (try simp only [Exit.inBlock, Exit.then])
    refine bodyPost_ret (results_tmp2 rfl _ _ _) rfl ?_
    have e1 : (normF (keptR (dayQ zs a3 a4) (cutsR zs))).1 = r1 := by rw [H2]
    have e2 : (normF (keptR (dayQ zs a3 a4) (cutsR zs))).2 = r2 := by rw [H2]
    rw [e1] at hR7
    (try rw [e2])
    exact ⟨v7, rfl, Kd.R_lower hR7 (by simp; omega), below_step HB2.out hb7⟩
  · have H2 := H.out
    rw [if_neg (by rw [ha]; simp)] at H2
    simp only [Prod.mk.injEq] at H2
    obtain ⟨rfl, rfl⟩ := H2
    have hs2 := hb2.size
    go_wp2
    (try simp only [Exit.inBlock, Exit.then])
    refine bodyPost_ret (results_tmp2 rfl _ _ _) rfl ?_
    exact ⟨_, rfl, Kd.R_nil _ _ _ _ _, below_alloc (HB1.out.trans (hb2.mono (by omega))) _⟩
end
end

/-! ### cohousingref04_Same: function 14 -/
def cohousingref04_Same.l0 : Nat → List (S24) → List (S24) → Int → Option (Bool)
  | 0, _, _, _ => none
  | k + 1, x0, x1, x5 => if x5 < (x0.length : Int) then (if 0 ≤ x5 then (if x5 < (x1.length : Int) then (if (!(((rd_T24 x0 x5).f0) == ((rd_T24 x1 x5).f0)) || (!(((rd_T24 x0 x5).f1) == ((rd_T24 x1 x5).f1)))) = true then (some false) else (cohousingref04_Same.l0 k x0 x1 (wrap64 (x5 + 1)))) else (none)) else (none)) else (some true)
def cohousingref04_Same.f (k : Nat) (l0 : List (S24)) (l1 : List (S24)) : Option (Bool) := if (l0.length : Int) = (l1.length : Int) then (cohousingref04_Same.l0 k l0 l1 0) else (some false)
theorem cohousingref04_Same.mono_l : ∀ k, (∀ y0 y1 y2, LeO (cohousingref04_Same.l0 k y0 y1 y2) (cohousingref04_Same.l0 (k + 1) y0 y1 y2))
  | 0 => fun _ _ _ r h => by simp [cohousingref04_Same.l0] at h
  | k + 1 => by
    have ih0 := cohousingref04_Same.mono_l k
    · intro y0 y1 y2
      unfold cohousingref04_Same.l0
      repeat' first
      | (with_reducible exact ih0 _ _ _)
      | (with_reducible exact LeO.refl _)
      | (with_reducible exact LeO.none _)
      | (with_reducible refine LeO.ite ?_ ?_)
      | (with_reducible refine LeO.bind ?_ (fun _ => ?_))
      | exact ih0 _ _ _
      | exact LeO.none _
      | refine LeO.ite ?_ ?_
      | refine LeO.bind ?_ (fun _ => ?_)
theorem cohousingref04_Same.mono : ∀ a0 a1 k, LeO (cohousingref04_Same.f k a0 a1) (cohousingref04_Same.f (k + 1) a0 a1) := by
  intro a0 a1 k
  have ih0 := cohousingref04_Same.mono_l k
  unfold cohousingref04_Same.f
  repeat' first
      | (with_reducible exact ih0 _ _ _)
      | (with_reducible exact LeO.refl _)
      | (with_reducible exact LeO.none _)
      | (with_reducible refine LeO.ite ?_ ?_)
      | (with_reducible refine LeO.bind ?_ (fun _ => ?_))
      | exact ih0 _ _ _
      | exact LeO.none _
      | refine LeO.ite ?_ ?_
      | refine LeO.bind ?_ (fun _ => ?_)
set_option maxHeartbeats 8000000 in
set_option maxRecDepth 100000 in
theorem cohousingref04_Same.calls (k : Nat) (A0 : Option Addr) (c0 : Nat) (l0 : List (S24)) (A1 : Option Addr) (c1 : Nat) (l1 : List (S24)) (r : Bool) (w : World) (hr0 : Kd.C k24 w A0 l0.length l0) (hc0 : l0.length ≤ c0) (hr1 : Kd.C k24 w A1 l1.length l1) (hc1 : l1.length ≤ c1) (h : cohousingref04_Same.f k l0 l1 = some r) :
    Calls Tryz.prog 14 #[.slice A0 l0.length c0, .slice A1 l1.length c1] w fun e w' => e = .returned (.bool r) ∧ Drawn0 w w' := by
  have hu24 := Tryz.underlying24
  have HR0 := Aside0.mk hr0
  have HC0 := Aside0.mk hc0
  clear hr0 hc0
  have HR1 := Aside0.mk hr1
  have HC1 := Aside0.mk hc1
  clear hr1 hc1
  have H : (if (l0.length : Int) = (l1.length : Int) then (cohousingref04_Same.l0 k l0 l1 0) else (some false)) = some r := h
  clear h
  by_cases c3 : (l0.length : Int) = (l1.length : Int)
  · rw [if_pos c3] at H
    have c3b0 : ((l0.length : Int) == (l1.length : Int)) = true := beq_iff_eq.mpr c3
    have c3b1 : ((l0.length : Int) != (l1.length : Int)) = false := bne_eq_false_iff_eq.mpr c3
    have c3b2 : (l0.length == l1.length) = true := by first | simpa using c3 | (simp at c3 ⊢; omega)
    clear c3
    have H' := Aside0.mk H
    clear H
    go_enter Tryz.func14, Tryz.ntmps14
    go_wp2
    repeat (go_quiet (fail); try go_wp2)
    go_loopg [5] k (fun kq v5 w' => ∃ (x5_1 : Int), v5 = .int .i64 x5_1 ∧ Aside0 (cohousingref04_Same.l0 kq l0 l1 x5_1 = some r) ∧ Aside0 (kq ≤ k) ∧ Drawn0 w w')
    case atStart => exact ⟨(0), (by first | rfl | (simp; done) | (simp [*]; done)), H', ⟨Nat.le_refl _⟩, by repeat (first | exact Drawn0.refl _ | apply Drawn0.step)⟩
    case round =>
      clear H'
      try clear c1
      try clear p2
      try clear c3
      try clear c3b0
      try clear c3b1
      try clear c3b2
      obtain ⟨x5_1, rfl, HA, HK1, ⟨m1, rfl⟩⟩ := hrel
      cases gk with
      | zero => exact absurd HA.out (by simp [cohousingref04_Same.l0])
      | succ k1 =>
        have H := HA.out
        clear HA
        simp only [cohousingref04_Same.l0] at H
        by_cases c4 : x5_1 < (l0.length : Int)
        · rw [if_pos c4] at H
          have c4b0 : decide (x5_1 < (l0.length : Int)) = true := decide_eq_true c4
          clear c4
          by_cases c5 : 0 ≤ x5_1
          · rw [if_pos c5] at H
            have c5b0 : decide (0 ≤ x5_1) = true := decide_eq_true c5
            clear c5
            by_cases c6 : x5_1 < (l1.length : Int)
            · rw [if_pos c6] at H
              have c6b0 : decide (x5_1 < (l1.length : Int)) = true := decide_eq_true c6
              clear c6
              by_cases c7 : (!(((rd_T24 l0 x5_1).f0) == ((rd_T24 l1 x5_1).f0)) || (!(((rd_T24 l0 x5_1).f1) == ((rd_T24 l1 x5_1).f1)))) = true
              · rw [if_pos c7] at H
                have c7b0 : (!(((rd_T24 l0 x5_1).f0) == ((rd_T24 l1 x5_1).f0)) || (!(((rd_T24 l0 x5_1).f1) == ((rd_T24 l1 x5_1).f1)))) = true := c7
                clear c7
                obtain rfl := Option.some.inj H
                have p134 : 0 ≤ (x5_1 : Int) := of_decide_eq_true (by first | (with_reducible assumption) | assumption)
                have q134 : x5_1 < (l0.length : Int) := of_decide_eq_true (by first | (with_reducible assumption) | assumption)
                obtain ⟨ad134, e134, hx134_0, hx134_1⟩ := at_T24 HR0.out x5_1 p134 q134
                cases e134
                replace p134 := eq_true p134
                replace q134 := eq_true q134
                have p135 : 0 ≤ (x5_1 : Int) := of_decide_eq_true (by first | (with_reducible assumption) | assumption)
                have q135 : x5_1 < (l1.length : Int) := of_decide_eq_true (by first | (with_reducible assumption) | assumption)
                obtain ⟨ad135, e135, hx135_0, hx135_1⟩ := at_T24 HR1.out x5_1 p135 q135
                cases e135
                replace p135 := eq_true p135
                replace q135 := eq_true q135
                go_wp2
                repeat (go_quiet (fail); try go_wp2)
                go_ret
                exact ⟨by first | rfl | (simp; done) | (simp [*]; done), by repeat (first | exact Drawn0.refl _ | apply Drawn0.step)⟩
              · rw [if_neg c7] at H
                have c7b0 : (!(((rd_T24 l0 x5_1).f0) == ((rd_T24 l1 x5_1).f0)) || (!(((rd_T24 l0 x5_1).f1) == ((rd_T24 l1 x5_1).f1)))) = false := by simpa using c7
                clear c7
                have H' := Aside0.mk H
                clear H
                have p134 : 0 ≤ (x5_1 : Int) := of_decide_eq_true (by first | (with_reducible assumption) | assumption)
                have q134 : x5_1 < (l0.length : Int) := of_decide_eq_true (by first | (with_reducible assumption) | assumption)
                obtain ⟨ad134, e134, hx134_0, hx134_1⟩ := at_T24 HR0.out x5_1 p134 q134
                cases e134
                replace p134 := eq_true p134
                replace q134 := eq_true q134
                have p135 : 0 ≤ (x5_1 : Int) := of_decide_eq_true (by first | (with_reducible assumption) | assumption)
                have q135 : x5_1 < (l1.length : Int) := of_decide_eq_true (by first | (with_reducible assumption) | assumption)
                obtain ⟨ad135, e135, hx135_0, hx135_1⟩ := at_T24 HR1.out x5_1 p135 q135
                cases e135
                replace p135 := eq_true p135
                replace q135 := eq_true q135
                go_wp2
                repeat (go_quiet (fail); try go_wp2)
                go_roundg k1
                case measure => have := HK1.out; omega
                case rel => exact ⟨(wrap64 (x5_1 + 1)), (by first | rfl | (simp; done) | (simp [*]; done)), H', ⟨by have := HK1.out; omega⟩, by repeat (first | exact Drawn0.refl _ | apply Drawn0.step)⟩
            · rw [if_neg c6] at H
              exact absurd H (by simp)
          · rw [if_neg c5] at H
            exact absurd H (by simp)
        · rw [if_neg c4] at H
          have c4b0 : decide (x5_1 < (l0.length : Int)) = false := decide_eq_false c4
          clear c4
          obtain rfl := Option.some.inj H
          go_wp2
          repeat (go_quiet (fail); try go_wp2)
          go_ret
          exact ⟨by first | rfl | (simp; done) | (simp [*]; done), by repeat (first | exact Drawn0.refl _ | apply Drawn0.step)⟩
  · rw [if_neg c3] at H
    have c3b0 : ((l0.length : Int) == (l1.length : Int)) = false := beq_eq_false_iff_ne.mpr c3
    have c3b1 : ((l0.length : Int) != (l1.length : Int)) = true := bne_iff_ne.mpr c3
    have c3b2 : (l0.length == l1.length) = false := by first | simpa using c3 | (simp at c3 ⊢; omega)
    obtain rfl := Option.some.inj H
    go_enter Tryz.func14, Tryz.ntmps14
    go_wp2
    repeat (go_quiet (fail); try go_wp2)
    go_ret
    exact ⟨by first | rfl | (simp; done) | (simp [*]; done), by repeat (first | exact Drawn0.refl _ | apply Drawn0.step)⟩

/-! ### facts_Differ: function 15 -/
-- by hand: cohousing/facts.Differ
section
def difQ (zs : List S26) (a b d : Int) : Bool := (onF zs d a).1 != (onF zs d b).1 || (onF zs d a).2 != (onF zs d b).2
def facts_Differ.f (l0 : List S26) (a1 : Int) (a2 : ByteArray) (a3 a4 : Int) : Option (List S24 × Int) :=
  if l0.length < 4398046511104 then some (if argB l0 a1 a2 [a3, a4] then normF (keptR (difQ (ownS l0 a1 a2) a3 a4) (cutsR (ownS l0 a1 a2))) else ([], 1)) else none
section
open Go.Shelf
open Go.Lib (compact)
open Go.Sort (grow alloc_eq_grow grow_grow Holds putRow flatK HoldsK putRowK setMany get_setMany size_setMany get_flatK size_flatK ext_get! blk_iff)
set_option maxHeartbeats 4000000 in
theorem clo39 (Bf Ba Bb : Nat) (A : Option Addr) (c : Nat) (zs : List S26) (da db day : Int) (W : World) (hf : W.cell? ⟨Bf, 0, none⟩ = some (.slice A zs.length c)) (ha : W.cell? ⟨Ba, 0, none⟩ = some (.int .i64 da)) (hb : W.cell? ⟨Bb, 0, none⟩ = some (.int .i64 db)) (hrow : Kd.C k26 W A zs.length zs) (hlen : zs.length < 4398046511104) :
    Calls Tryz.prog 39 #[.int .i64 day, .pointer (some ⟨Bf, 0, none⟩), .pointer (some ⟨Ba, 0, none⟩), .pointer (some ⟨Bb, 0, none⟩)] W fun e w' => e = .returned (.bool (difQ zs da db day)) ∧ Below W.heap.size W w' := by
  have lf := World.block_lt_of_cell? W _ hf
  have la := World.block_lt_of_cell? W _ ha
  have lb := World.block_lt_of_cell? W _ hb
  have hon : ∀ (d : Int) (V : World), Below W.heap.size W V → Calls Tryz.prog 36 #[.agg #[.slice A zs.length c], .int .i64 day, .int .i64 d] V fun e w' => e = .returned (.tuple #[.int .i64 (onF zs day d).1, .bool (onF zs day d).2]) ∧ Below V.heap.size V w' := fun d V hV => on36 A c zs day d V hlen (Kd.C_below hrow hV)
  have HON := Lib.hid hon
  have HF := Lib.hid hf
  have HA := Lib.hid ha
  have HBb := Lib.hid hb
  clear hon hf ha hb hrow
  unfold difQ
  obtain ⟨W1, hW1⟩ : ∃ w_ : World, w_ = (W.alloc (Obj.cells #[Value.int IntKind.i64 0, Value.bool false] 63)).alloc (Obj.cells #[Value.int IntKind.i64 0, Value.bool false] 63) := ⟨_, rfl⟩
  have hB1 : Below W.heap.size W W1 := by rw [hW1]; with_reducible repeat first | exact Below.refl _ _ | apply below_alloc
  have hsz : W.heap.size + 2 = W1.heap.size := by rw [hW1]; simp
  have c1 : W1.cell? ⟨W.heap.size, 0, none⟩ = some (.int .i64 0) := by rw [hW1]; go_simp
  have c2 : W1.cell? ⟨W.heap.size, 1, none⟩ = some (.bool false) := by rw [hW1]; go_simp
  have c3 : W1.cell? ⟨W.heap.size + 1, 0, none⟩ = some (.int .i64 0) := by rw [hW1]; go_simp
  have c4 : W1.cell? ⟨W.heap.size + 1, 1, none⟩ = some (.bool false) := by rw [hW1]; go_simp
  have f1 : W1.frozen? ⟨W.heap.size, 0, none⟩ = false := by rw [hW1]; go_simp
  have f2 : W1.frozen? ⟨W.heap.size, 1, none⟩ = false := by rw [hW1]; go_simp
  have f3 : W1.frozen? ⟨W.heap.size + 1, 0, none⟩ = false := by rw [hW1]; go_simp
  have f4 : W1.frozen? ⟨W.heap.size + 1, 1, none⟩ = false := by rw [hW1]; go_simp
  have g1 := (hB1.cell (p := ⟨Bf, 0, none⟩) lf).trans HF.out
  have g2 := (hB1.cell (p := ⟨Ba, 0, none⟩) la).trans HA.out
  have hf1 : ∀ o o', ((W.alloc o).alloc o').cell? ⟨Bf, 0, none⟩ = some (.slice A zs.length c) := fun o o' => cell_sb o' (cell_sb o HF.out)
  have ha1 : ∀ o o', ((W.alloc o).alloc o').cell? ⟨Ba, 0, none⟩ = some (.int .i64 da) := fun o o' => cell_sb o' (cell_sb o HA.out)
  go_enter Tryz.func39, Tryz.ntmps39
  go_wp2_with fail
  clear hf1 ha1
  rw [← hW1]
  refine (HON.out da W1 hB1).mono ?_
  rintro e w2 ⟨rfl, hb2⟩
  generalize hr : onF zs day da = r at *
  have ER := Aside0.mk hr
  clear hr
  clear hW1
  have x1 := (hb2.cell (p := ⟨W.heap.size, 0, none⟩) (by show W.heap.size < _; omega)).trans c1
  have x2 := (hb2.cell (p := ⟨W.heap.size, 1, none⟩) (by show W.heap.size < _; omega)).trans c2
  have y1 := (froz_below hb2 (b := W.heap.size) (o := 0) (by omega)).trans f1
  have y2 := (froz_below hb2 (b := W.heap.size) (o := 1) (by omega)).trans f2
  obtain ⟨W2, hW2⟩ : ∃ w_ : World, w_ = (w2.setCell ⟨W.heap.size, 0, none⟩ (.int .i64 r.1)).setCell ⟨W.heap.size, 1, none⟩ (.bool r.2) := ⟨_, rfl⟩
  have hB2 : Below W.heap.size W W2 := by rw [hW2]; exact bl_set (bl_set (hB1.trans (hb2.mono (by omega))) _ _ _ (Nat.le_refl _)) _ _ _ (Nat.le_refl _)
  have hs2 : W1.heap.size ≤ W2.heap.size := by rw [hW2]; have := hb2.size; simp; omega
  have z1 : W2.cell? ⟨W.heap.size, 0, none⟩ = some (.int .i64 r.1) := by rw [hW2]; go_simp
  have z2 : W2.cell? ⟨W.heap.size, 1, none⟩ = some (.bool r.2) := by rw [hW2]; go_simp
  have u3 := (hb2.cell (p := ⟨W.heap.size + 1, 0, none⟩) (by show W.heap.size + 1 < _; omega)).trans c3
  have u4 := (hb2.cell (p := ⟨W.heap.size + 1, 1, none⟩) (by show W.heap.size + 1 < _; omega)).trans c4
  have v3 := (froz_below hb2 (b := W.heap.size + 1) (o := 0) (by omega)).trans f3
  have v4 := (froz_below hb2 (b := W.heap.size + 1) (o := 1) (by omega)).trans f4
  have z3 : W2.cell? ⟨W.heap.size + 1, 0, none⟩ = some (.int .i64 0) := by rw [hW2]; go_simp
  have z4 : W2.cell? ⟨W.heap.size + 1, 1, none⟩ = some (.bool false) := by rw [hW2]; go_simp
  have t3 : W2.frozen? ⟨W.heap.size + 1, 0, none⟩ = false := by rw [hW2]; go_simp
  have t4 : W2.frozen? ⟨W.heap.size + 1, 1, none⟩ = false := by rw [hW2]; go_simp
  have k1 := (hB2.cell (p := ⟨Bf, 0, none⟩) lf).trans HF.out
  have k2 := (hB2.cell (p := ⟨Bb, 0, none⟩) lb).trans HBb.out
  have k1' := k1
  have k2' := k2
  rw [hW2] at k1' k2'
  go_wp2_with fail
  rw [← hW2]
  refine (HON.out db W2 hB2).mono ?_
  rintro e w3 ⟨rfl, hb3⟩
  generalize hs : onF zs day db = s at *
  have ES := Aside0.mk hs
  clear hs
  clear k1' k2' hW2 x1 x2 y1 y2 u3 u4 v3 v4 c1 c2 c3 c4 f1 f2 f3 f4 g1 g2
  have n1 := (hb3.cell (p := ⟨W.heap.size, 0, none⟩) (by show W.heap.size < _; omega)).trans z1
  have n2 := (hb3.cell (p := ⟨W.heap.size, 1, none⟩) (by show W.heap.size < _; omega)).trans z2
  have n3 := (hb3.cell (p := ⟨W.heap.size + 1, 0, none⟩) (by show W.heap.size + 1 < _; omega)).trans z3
  have n4 := (hb3.cell (p := ⟨W.heap.size + 1, 1, none⟩) (by show W.heap.size + 1 < _; omega)).trans z4
  have m3 := (froz_below hb3 (b := W.heap.size + 1) (o := 0) (by omega)).trans t3
  have m4 := (froz_below hb3 (b := W.heap.size + 1) (o := 1) (by omega)).trans t4
  have HB3 := Aside0.mk (hB2.trans (hb3.mono (by omega)))
  clear hb3 hb2 hB2 hB1 z1 z2 z3 z4 t3 t4 k1 k2
  go_wp2
  all_goals
    go_ret
    refine ⟨?_, bl_set (bl_set HB3.out _ _ _ (by omega)) _ _ _ (by omega)⟩
    rw [ER.out, ES.out]
    simp_all
set_option maxHeartbeats 8000000 in
set_option maxRecDepth 100000 in
theorem facts_Differ.calls (A0 : Option Addr) (c0 : Nat) (l0 : List S26) (a1 : Int) (a2 : ByteArray) (a3 a4 : Int) (r1 : List S24) (r2 : Int) (w : World) (hr0 : Kd.C k26 w A0 l0.length l0) (hc0 : l0.length ≤ c0) (h : facts_Differ.f l0 a1 a2 a3 a4 = some (r1, r2)) :
    Calls Tryz.prog 15 #[.slice A0 l0.length c0, .int .i64 a1, .string a2, .int .i64 a3, .int .i64 a4] w fun e w' => ∃ v0_ : Value, e = .returned (.tuple #[v0_, .int .i64 r2]) ∧ Kd.R k24 24 w' w.heap.size (fun _ => True) v0_ r1 ∧ Below w.heap.size w w' := by
  unfold facts_Differ.f at h
  split at h
  case isFalse => exact absurd h (by simp)
  rename_i hlen
  have H := Aside0.mk (Option.some.inj h)
  have HR0 := Aside0.mk hr0
  have HC0 := Aside0.mk hc0
  clear h hr0 hc0
  go_enter Tryz.func15, Tryz.ntmps15
  go_wp2_with fail
  obtain ⟨W1, hW1⟩ : ∃ w_ : World, w_ = ((w.alloc (Obj.cells #[Value.int IntKind.i64 a3] 3)).alloc (Obj.cells #[Value.int IntKind.i64 a4] 3)).alloc (Obj.cells #[Value.int IntKind.i64 a3, Value.int IntKind.i64 a4] 3) := ⟨_, rfl⟩
  have hsz : w.heap.size + 3 = W1.heap.size := by rw [hW1]; simp
  have hB1 : Below w.heap.size w W1 := by rw [hW1]; with_reducible repeat first | exact Below.refl _ _ | apply below_alloc
  have a1' : W1.cell? ⟨w.heap.size, 0, none⟩ = some (.int .i64 a3) := by rw [hW1]; go_simp
  have a2' : W1.cell? ⟨w.heap.size + 1, 0, none⟩ = some (.int .i64 a4) := by rw [hW1]; go_simp
  have a3' : W1.cell? ⟨w.heap.size + 1 + 1, 0, none⟩ = some (.int .i64 a3) := by rw [hW1]; go_simp
  have a4' : W1.cell? ⟨w.heap.size + 1 + 1, 1, none⟩ = some (.int .i64 a4) := by rw [hW1]; go_simp
  rw [← hW1]
  clear hW1
  have K1 := Aside0.mk a1'
  have K2 := Aside0.mk a2'
  have HB1 := Aside0.mk hB1
  refine (of35 A0 c0 l0 a1 a2 (w.heap.size + 1 + 1) 2 [a3, a4] W1 (Kd.C_below HR0.out hB1) HC0.out hlen (fun j hj => ?_) (by simp) (by omega)).mono ?_
  · have hj2 : j = 0 ∨ j = 1 := by simp at hj; omega
    rcases hj2 with rfl | rfl
    · exact a3'
    · exact a4'
  clear a1' a2' a3' a4' hB1
  rintro e w2 ⟨hb2, ⟨ha, A, c, rfl, hC⟩ | ⟨ha, rfl⟩⟩
  · have H2 := H.out
    rw [if_pos ha] at H2
    have h4 := argB_len ha
    have hl2 : (ownS l0 a1 a2).length ≤ 4000 := Nat.le_trans (ownS_len _ _ _) h4
    generalize ownS l0 a1 a2 = zs at *
    have hb2' : Below W1.heap.size W1 (w2.alloc (Obj.cells #[Value.slice A zs.length c] 55)) := below_alloc hb2 _
    have hs2 := hb2.size
    have f1 : (w2.alloc (Obj.cells #[Value.slice A zs.length c] 55)).cell? ⟨w2.heap.size, 0, none⟩ = some (.slice A zs.length c) := by go_simp
    have f2 := (hb2'.cell (p := ⟨w.heap.size + 1, 0, none⟩) (by show w.heap.size + 1 < _; omega)).trans K2.out
    have f3 := (hb2'.cell (p := ⟨w.heap.size, 0, none⟩) (by show w.heap.size < _; omega)).trans K1.out
    have hC2 := Kd.C_below hC (below_alloc (Below.refl _ w2) (Obj.cells #[Value.slice A zs.length c] 55))
    have HW := Lib.hid (where37 A c zs 39 #[.pointer (some ⟨w2.heap.size, 0, none⟩), .pointer (some ⟨w.heap.size, 0, none⟩), .pointer (some ⟨w.heap.size + 1, 0, none⟩)] (difQ zs a3 a4) (w2.alloc (Obj.cells #[Value.slice A zs.length c] 55)) hC2 hl2 (enters_of Tryz.func39 (by kernel_rfl) rfl)
      (fun V day hV => clo39 w2.heap.size w.heap.size (w.heap.size + 1) A c zs a3 a4 day V ((hV.cell (p := ⟨w2.heap.size, 0, none⟩) (World.block_lt_of_cell? _ _ f1)).trans f1) ((hV.cell (p := ⟨w.heap.size, 0, none⟩) (World.block_lt_of_cell? _ _ f3)).trans f3) ((hV.cell (p := ⟨w.heap.size + 1, 0, none⟩) (World.block_lt_of_cell? _ _ f2)).trans f2) (Kd.C_below hC2 hV) (by omega)))
    have HB2 := Aside0.mk (HB1.out.trans (hb2'.mono (by omega)))
    clear f1 f2 f3 hC2 hb2' hb2 hC H
    go_wp2_with (go_at_call 37; refine HW.out.mono ?_; rintro e w7 ⟨v7, rfl, hR7, hb7⟩)
    (try simp only [Exit.inBlock, Exit.then])
    refine bodyPost_ret (results_tmp2 rfl _ _ _) rfl ?_
    have e1 : (normF (keptR (difQ zs a3 a4) (cutsR zs))).1 = r1 := by rw [H2]
    have e2 : (normF (keptR (difQ zs a3 a4) (cutsR zs))).2 = r2 := by rw [H2]
    rw [e1] at hR7
    (try rw [e2])
    exact ⟨v7, rfl, Kd.R_lower hR7 (by simp; omega), below_step HB2.out hb7⟩
  · have H2 := H.out
    rw [if_neg (by rw [ha]; simp)] at H2
    simp only [Prod.mk.injEq] at H2
    obtain ⟨rfl, rfl⟩ := H2
    have hs2 := hb2.size
    go_wp2
    (try simp only [Exit.inBlock, Exit.then])
    refine bodyPost_ret (results_tmp2 rfl _ _ _) rfl ?_
    exact ⟨_, rfl, Kd.R_nil _ _ _ _ _, below_alloc (HB1.out.trans (hb2.mono (by omega))) _⟩
end
end

/-! ### cohousinglaw16_example: function 31 -/
def cohousinglaw16_example.f  : Option ((List (S26))) := some (([(⟨1, (⟨#[112, 101, 114, 115, 111, 110, 115]⟩ : ByteArray), 2, (⟨0, 100⟩ : S24), 0, false⟩ : S26), (⟨1, (⟨#[112, 101, 114, 115, 111, 110, 115]⟩ : ByteArray), 3, (⟨50, 60⟩ : S24), 70, false⟩ : S26), (⟨1, (⟨#[112, 101, 114, 115, 111, 110, 115]⟩ : ByteArray), 0, (⟨50, 60⟩ : S24), 80, true⟩ : S26)] : List (S26)))
set_option maxHeartbeats 8000000 in
set_option maxRecDepth 100000 in
theorem cohousinglaw16_example.calls  (r : List (S26)) (w : World) (h : cohousinglaw16_example.f  = some r) :
    Calls Tryz.prog 31 #[] w fun e w' => ∃ v0_ : Value, e = .returned (v0_) ∧ Kd.R k26 26 w' w.heap.size (fun _ => True) v0_ r ∧ Below w.heap.size w w' := by
  have hu24 := Tryz.underlying24
  have hu26 := Tryz.underlying26
  have HB := Aside0.mk (Below.refl w.heap.size w)
  have H : (some (([(⟨1, (⟨#[112, 101, 114, 115, 111, 110, 115]⟩ : ByteArray), 2, (⟨0, 100⟩ : S24), 0, false⟩ : S26), (⟨1, (⟨#[112, 101, 114, 115, 111, 110, 115]⟩ : ByteArray), 3, (⟨50, 60⟩ : S24), 70, false⟩ : S26), (⟨1, (⟨#[112, 101, 114, 115, 111, 110, 115]⟩ : ByteArray), 0, (⟨50, 60⟩ : S24), 80, true⟩ : S26)] : List (S26)))) = some r := h
  clear h
  obtain ⟨y136, hy136⟩ : ∃ y_ : List (S26), y_ = (([(⟨1, (⟨#[112, 101, 114, 115, 111, 110, 115]⟩ : ByteArray), 2, (⟨0, 100⟩ : S24), 0, false⟩ : S26), (⟨1, (⟨#[112, 101, 114, 115, 111, 110, 115]⟩ : ByteArray), 3, (⟨50, 60⟩ : S24), 70, false⟩ : S26), (⟨1, (⟨#[112, 101, 114, 115, 111, 110, 115]⟩ : ByteArray), 0, (⟨50, 60⟩ : S24), 80, true⟩ : S26)] : List (S26))) := ⟨_, rfl⟩
  replace H : (some y136) = some r := by first | (rw [hy136]; with_reducible exact H) | (have H2_ := (Option.bind_some _ _).symm.trans H; rw [hy136]; with_reducible exact H2_) | (have H2_ := (Option.bind_some _ _).symm.trans H; with_reducible exact H2_) | with_reducible exact H | (rw [hy136]; exact H) | exact H
  have Ny136 := Aside0.mk hy136
  clear hy136
  obtain rfl := Option.some.inj H
  go_enter Tryz.func31, Tryz.ntmps31
  go_wp2_with (first | ((with_reducible refine gate_dst (N := 7) rfl ?_); refine Kd.R_lit k26 _ 26 ?hg (N := 7) ?hd (xs := ([(⟨1, (⟨#[112, 101, 114, 115, 111, 110, 115]⟩ : ByteArray), 2, (⟨0, 100⟩ : S24), 0, false⟩ : S26), (⟨1, (⟨#[112, 101, 114, 115, 111, 110, 115]⟩ : ByteArray), 3, (⟨50, 60⟩ : S24), 70, false⟩ : S26), (⟨1, (⟨#[112, 101, 114, 115, 111, 110, 115]⟩ : ByteArray), 0, (⟨50, 60⟩ : S24), 80, true⟩ : S26)] : List (S26))) (inner := [.int .i64 1, .string (⟨#[112, 101, 114, 115, 111, 110, 115]⟩ : ByteArray), .int .i64 2, .int .i64 0, .int .i64 100, .int .i64 0, .bool false, .int .i64 1, .string (⟨#[112, 101, 114, 115, 111, 110, 115]⟩ : ByteArray), .int .i64 3, .int .i64 50, .int .i64 60, .int .i64 70, .bool false, .int .i64 1, .string (⟨#[112, 101, 114, 115, 111, 110, 115]⟩ : ByteArray), .int .i64 0, .int .i64 50, .int .i64 60, .int .i64 80, .bool true]) (ok := fun _ => True) (okp := fun _ => True) ?hr ?hp (fun _ hk => hk) trivial (Below.refl _ _) (Nat.le_refl _) (by simp) ?_; (case hd => rfl); (case hg => rfl); (case hr => first | (go_simp; done) | (go_simp; rfl)); (case hp => exact (Reps.c7 (show Kd.M k26 _ _ _ (⟨1, (⟨#[112, 101, 114, 115, 111, 110, 115]⟩ : ByteArray), 2, (⟨0, 100⟩ : S24), 0, false⟩ : S26) [.int .i64 1, .string (⟨#[112, 101, 114, 115, 111, 110, 115]⟩ : ByteArray), .int .i64 2, .int .i64 0, .int .i64 100, .int .i64 0, .bool false] from (k26_mkM _ _ _ (⟨1, (⟨#[112, 101, 114, 115, 111, 110, 115]⟩ : ByteArray), 2, (⟨0, 100⟩ : S24), 0, false⟩ : S26) )) (Reps.c7 (show Kd.M k26 _ _ _ (⟨1, (⟨#[112, 101, 114, 115, 111, 110, 115]⟩ : ByteArray), 3, (⟨50, 60⟩ : S24), 70, false⟩ : S26) [.int .i64 1, .string (⟨#[112, 101, 114, 115, 111, 110, 115]⟩ : ByteArray), .int .i64 3, .int .i64 50, .int .i64 60, .int .i64 70, .bool false] from (k26_mkM _ _ _ (⟨1, (⟨#[112, 101, 114, 115, 111, 110, 115]⟩ : ByteArray), 3, (⟨50, 60⟩ : S24), 70, false⟩ : S26) )) (Reps.c7 (show Kd.M k26 _ _ _ (⟨1, (⟨#[112, 101, 114, 115, 111, 110, 115]⟩ : ByteArray), 0, (⟨50, 60⟩ : S24), 80, true⟩ : S26) [.int .i64 1, .string (⟨#[112, 101, 114, 115, 111, 110, 115]⟩ : ByteArray), .int .i64 0, .int .i64 50, .int .i64 60, .int .i64 80, .bool true] from (k26_mkM _ _ _ (⟨1, (⟨#[112, 101, 114, 115, 111, 110, 115]⟩ : ByteArray), 0, (⟨50, 60⟩ : S24), 80, true⟩ : S26) )) (Reps.none _ _))))); intro v137 w1 ho2 hb hg_ hnew_; clear hg_ hnew_; (first | rw [← Ny136.out] at ho2 | (simp only [Int.reduceToNat] at ho2; rw [← Ny136.out] at ho2)); have n0_ := Aside0.mk (Kd.R_lower ho2 (below_size (by repeat (first | (with_reducible first | exact HB.out | apply below_alloc | apply pw_below_drewN | apply below_drew1) | exact HB.out)))); have n1_ := Aside0.mk (below_step (by repeat (first | (with_reducible first | exact HB.out | apply below_alloc | apply pw_below_drewN | apply below_drew1) | exact HB.out)) hb); clear HB; have HO138 := n0_; have HB := n1_; clear n0_ n1_; clear hb ho2))
  go_ret
  exact ⟨_, by first | rfl | (simp [errW_none, errW_some] <;> rfl) | (simp [*, errW_none, errW_some] <;> rfl), by (with_reducible repeat (first | apply Kd.R_alloc | apply Kd.R_drewN | apply Kd.R_drew)); exact HO138.out, by repeat (first | (with_reducible first | exact HB.out | apply below_alloc | apply pw_below_drewN | apply below_drew1) | exact HB.out)⟩

/-! ### cohousinglaw16_head: function 10 -/
def cohousinglaw16_head.f (k : Nat)  : Option (Bool) := (cohousinglaw16_example.f).bind fun t139 => ((facts_Value.f t139 1 (⟨#[112, 101, 114, 115, 111, 110, 115]⟩ : ByteArray) 55 60).bind fun bt142 => ((facts_Value.f t139 1 (⟨#[112, 101, 114, 115, 111, 110, 115]⟩ : ByteArray) 55 70).bind fun bt145 => ((facts_Value.f t139 1 (⟨#[112, 101, 114, 115, 111, 110, 115]⟩ : ByteArray) 55 90).bind fun bt148 => ((facts_Days.f t139 1 (⟨#[112, 101, 114, 115, 111, 110, 115]⟩ : ByteArray) 2 75).bind fun bt151 => ((facts_Differ.f t139 1 (⟨#[112, 101, 114, 115, 111, 110, 115]⟩ : ByteArray) 60 70).bind fun bt155 => ((facts_Value.f t139 1 (⟨#[80, 101, 114, 115, 111, 110, 115]⟩ : ByteArray) 55 60).bind fun bt159 => (if bt142.2.2 = 0 then (if bt145.2.2 = 0 then (if bt148.2.2 = 0 then (if bt151.2 = 0 then (if bt155.2 = 0 then (if bt159.2.2 = 1 then (if bt142.1 = 2 then (if bt142.2.1 = true then (if bt145.1 = 3 then (if bt145.2.1 = true then (if bt148.2.1 = true then (none) else ((cohousingref04_Same.f k bt151.1 (([(⟨0, 50⟩ : S24), (⟨60, 100⟩ : S24)] : List (S24)))).bind fun t165 => (if t165 = true then ((cohousingref04_Same.f k bt155.1 (([(⟨50, 60⟩ : S24)] : List (S24)))).bind fun t169 => (if t169 = true then (some true) else (none))) else (none)))) else (none)) else (none)) else (none)) else (none)) else (none)) else (none)) else (none)) else (none)) else (none)) else (none))))))))
theorem cohousinglaw16_head.mono : ∀ k, LeO (cohousinglaw16_head.f k ) (cohousinglaw16_head.f (k + 1) ) := by
  intro  k
  unfold cohousinglaw16_head.f
  repeat' first
      | (with_reducible exact cohousingref04_Same.mono _ _ _)
      | (with_reducible exact LeO.refl _)
      | (with_reducible exact LeO.none _)
      | (with_reducible refine LeO.ite ?_ ?_)
      | (with_reducible refine LeO.bind ?_ (fun _ => ?_))
      | exact cohousingref04_Same.mono _ _ _
      | exact LeO.none _
      | refine LeO.ite ?_ ?_
      | refine LeO.bind ?_ (fun _ => ?_)
set_option maxHeartbeats 8000000 in
set_option maxRecDepth 100000 in
theorem cohousinglaw16_head.calls (k : Nat)  (r : Bool) (w : World) (h : cohousinglaw16_head.f k  = some r) :
    Calls Tryz.prog 10 #[] w fun e w' => e = .returned (.bool r) ∧ Below w.heap.size w w' := by
  have hu24 := Tryz.underlying24
  have HB := Aside0.mk (Below.refl w.heap.size w)
  have H : ((cohousinglaw16_example.f).bind fun t139 => ((facts_Value.f t139 1 (⟨#[112, 101, 114, 115, 111, 110, 115]⟩ : ByteArray) 55 60).bind fun bt142 => ((facts_Value.f t139 1 (⟨#[112, 101, 114, 115, 111, 110, 115]⟩ : ByteArray) 55 70).bind fun bt145 => ((facts_Value.f t139 1 (⟨#[112, 101, 114, 115, 111, 110, 115]⟩ : ByteArray) 55 90).bind fun bt148 => ((facts_Days.f t139 1 (⟨#[112, 101, 114, 115, 111, 110, 115]⟩ : ByteArray) 2 75).bind fun bt151 => ((facts_Differ.f t139 1 (⟨#[112, 101, 114, 115, 111, 110, 115]⟩ : ByteArray) 60 70).bind fun bt155 => ((facts_Value.f t139 1 (⟨#[80, 101, 114, 115, 111, 110, 115]⟩ : ByteArray) 55 60).bind fun bt159 => (if bt142.2.2 = 0 then (if bt145.2.2 = 0 then (if bt148.2.2 = 0 then (if bt151.2 = 0 then (if bt155.2 = 0 then (if bt159.2.2 = 1 then (if bt142.1 = 2 then (if bt142.2.1 = true then (if bt145.1 = 3 then (if bt145.2.1 = true then (if bt148.2.1 = true then (none) else ((cohousingref04_Same.f k bt151.1 (([(⟨0, 50⟩ : S24), (⟨60, 100⟩ : S24)] : List (S24)))).bind fun t165 => (if t165 = true then ((cohousingref04_Same.f k bt155.1 (([(⟨50, 60⟩ : S24)] : List (S24)))).bind fun t169 => (if t169 = true then (some true) else (none))) else (none)))) else (none)) else (none)) else (none)) else (none)) else (none)) else (none)) else (none)) else (none)) else (none)) else (none))))))))) = some r := h
  clear h
  replace H := Option.bind_eq_some_iff.mp H
  obtain ⟨t139, A10, H⟩ := H
  replace H : ((facts_Value.f t139 1 (⟨#[112, 101, 114, 115, 111, 110, 115]⟩ : ByteArray) 55 60).bind fun bt142 => ((facts_Value.f t139 1 (⟨#[112, 101, 114, 115, 111, 110, 115]⟩ : ByteArray) 55 70).bind fun bt145 => ((facts_Value.f t139 1 (⟨#[112, 101, 114, 115, 111, 110, 115]⟩ : ByteArray) 55 90).bind fun bt148 => ((facts_Days.f t139 1 (⟨#[112, 101, 114, 115, 111, 110, 115]⟩ : ByteArray) 2 75).bind fun bt151 => ((facts_Differ.f t139 1 (⟨#[112, 101, 114, 115, 111, 110, 115]⟩ : ByteArray) 60 70).bind fun bt155 => ((facts_Value.f t139 1 (⟨#[80, 101, 114, 115, 111, 110, 115]⟩ : ByteArray) 55 60).bind fun bt159 => (if bt142.2.2 = 0 then (if bt145.2.2 = 0 then (if bt148.2.2 = 0 then (if bt151.2 = 0 then (if bt155.2 = 0 then (if bt159.2.2 = 1 then (if bt142.1 = 2 then (if bt142.2.1 = true then (if bt145.1 = 3 then (if bt145.2.1 = true then (if bt148.2.1 = true then (none) else ((cohousingref04_Same.f k bt151.1 (([(⟨0, 50⟩ : S24), (⟨60, 100⟩ : S24)] : List (S24)))).bind fun t165 => (if t165 = true then ((cohousingref04_Same.f k bt155.1 (([(⟨50, 60⟩ : S24)] : List (S24)))).bind fun t169 => (if t169 = true then (some true) else (none))) else (none)))) else (none)) else (none)) else (none)) else (none)) else (none)) else (none)) else (none)) else (none)) else (none)) else (none)))))))) = some r := H
  have A1 := Aside0.mk A10
  clear A10
  replace H := Option.bind_eq_some_iff.mp H
  obtain ⟨⟨t142, t143, t144⟩, A20, H⟩ := H
  replace H : ((facts_Value.f t139 1 (⟨#[112, 101, 114, 115, 111, 110, 115]⟩ : ByteArray) 55 70).bind fun bt145 => ((facts_Value.f t139 1 (⟨#[112, 101, 114, 115, 111, 110, 115]⟩ : ByteArray) 55 90).bind fun bt148 => ((facts_Days.f t139 1 (⟨#[112, 101, 114, 115, 111, 110, 115]⟩ : ByteArray) 2 75).bind fun bt151 => ((facts_Differ.f t139 1 (⟨#[112, 101, 114, 115, 111, 110, 115]⟩ : ByteArray) 60 70).bind fun bt155 => ((facts_Value.f t139 1 (⟨#[80, 101, 114, 115, 111, 110, 115]⟩ : ByteArray) 55 60).bind fun bt159 => (if t144 = 0 then (if bt145.2.2 = 0 then (if bt148.2.2 = 0 then (if bt151.2 = 0 then (if bt155.2 = 0 then (if bt159.2.2 = 1 then (if t142 = 2 then (if t143 = true then (if bt145.1 = 3 then (if bt145.2.1 = true then (if bt148.2.1 = true then (none) else ((cohousingref04_Same.f k bt151.1 (([(⟨0, 50⟩ : S24), (⟨60, 100⟩ : S24)] : List (S24)))).bind fun t165 => (if t165 = true then ((cohousingref04_Same.f k bt155.1 (([(⟨50, 60⟩ : S24)] : List (S24)))).bind fun t169 => (if t169 = true then (some true) else (none))) else (none)))) else (none)) else (none)) else (none)) else (none)) else (none)) else (none)) else (none)) else (none)) else (none)) else (none))))))) = some r := H
  have A2 := Aside0.mk A20
  clear A20
  replace H := Option.bind_eq_some_iff.mp H
  obtain ⟨⟨t145, t146, t147⟩, A30, H⟩ := H
  replace H : ((facts_Value.f t139 1 (⟨#[112, 101, 114, 115, 111, 110, 115]⟩ : ByteArray) 55 90).bind fun bt148 => ((facts_Days.f t139 1 (⟨#[112, 101, 114, 115, 111, 110, 115]⟩ : ByteArray) 2 75).bind fun bt151 => ((facts_Differ.f t139 1 (⟨#[112, 101, 114, 115, 111, 110, 115]⟩ : ByteArray) 60 70).bind fun bt155 => ((facts_Value.f t139 1 (⟨#[80, 101, 114, 115, 111, 110, 115]⟩ : ByteArray) 55 60).bind fun bt159 => (if t144 = 0 then (if t147 = 0 then (if bt148.2.2 = 0 then (if bt151.2 = 0 then (if bt155.2 = 0 then (if bt159.2.2 = 1 then (if t142 = 2 then (if t143 = true then (if t145 = 3 then (if t146 = true then (if bt148.2.1 = true then (none) else ((cohousingref04_Same.f k bt151.1 (([(⟨0, 50⟩ : S24), (⟨60, 100⟩ : S24)] : List (S24)))).bind fun t165 => (if t165 = true then ((cohousingref04_Same.f k bt155.1 (([(⟨50, 60⟩ : S24)] : List (S24)))).bind fun t169 => (if t169 = true then (some true) else (none))) else (none)))) else (none)) else (none)) else (none)) else (none)) else (none)) else (none)) else (none)) else (none)) else (none)) else (none)))))) = some r := H
  have A3 := Aside0.mk A30
  clear A30
  replace H := Option.bind_eq_some_iff.mp H
  obtain ⟨⟨t148, t149, t150⟩, A40, H⟩ := H
  replace H : ((facts_Days.f t139 1 (⟨#[112, 101, 114, 115, 111, 110, 115]⟩ : ByteArray) 2 75).bind fun bt151 => ((facts_Differ.f t139 1 (⟨#[112, 101, 114, 115, 111, 110, 115]⟩ : ByteArray) 60 70).bind fun bt155 => ((facts_Value.f t139 1 (⟨#[80, 101, 114, 115, 111, 110, 115]⟩ : ByteArray) 55 60).bind fun bt159 => (if t144 = 0 then (if t147 = 0 then (if t150 = 0 then (if bt151.2 = 0 then (if bt155.2 = 0 then (if bt159.2.2 = 1 then (if t142 = 2 then (if t143 = true then (if t145 = 3 then (if t146 = true then (if t149 = true then (none) else ((cohousingref04_Same.f k bt151.1 (([(⟨0, 50⟩ : S24), (⟨60, 100⟩ : S24)] : List (S24)))).bind fun t165 => (if t165 = true then ((cohousingref04_Same.f k bt155.1 (([(⟨50, 60⟩ : S24)] : List (S24)))).bind fun t169 => (if t169 = true then (some true) else (none))) else (none)))) else (none)) else (none)) else (none)) else (none)) else (none)) else (none)) else (none)) else (none)) else (none)) else (none))))) = some r := H
  have A4 := Aside0.mk A40
  clear A40
  replace H := Option.bind_eq_some_iff.mp H
  obtain ⟨⟨t151, t152⟩, A50, H⟩ := H
  replace H : ((facts_Differ.f t139 1 (⟨#[112, 101, 114, 115, 111, 110, 115]⟩ : ByteArray) 60 70).bind fun bt155 => ((facts_Value.f t139 1 (⟨#[80, 101, 114, 115, 111, 110, 115]⟩ : ByteArray) 55 60).bind fun bt159 => (if t144 = 0 then (if t147 = 0 then (if t150 = 0 then (if t152 = 0 then (if bt155.2 = 0 then (if bt159.2.2 = 1 then (if t142 = 2 then (if t143 = true then (if t145 = 3 then (if t146 = true then (if t149 = true then (none) else ((cohousingref04_Same.f k t151 (([(⟨0, 50⟩ : S24), (⟨60, 100⟩ : S24)] : List (S24)))).bind fun t165 => (if t165 = true then ((cohousingref04_Same.f k bt155.1 (([(⟨50, 60⟩ : S24)] : List (S24)))).bind fun t169 => (if t169 = true then (some true) else (none))) else (none)))) else (none)) else (none)) else (none)) else (none)) else (none)) else (none)) else (none)) else (none)) else (none)) else (none)))) = some r := H
  have A5 := Aside0.mk A50
  clear A50
  replace H := Option.bind_eq_some_iff.mp H
  obtain ⟨⟨t155, t156⟩, A60, H⟩ := H
  replace H : ((facts_Value.f t139 1 (⟨#[80, 101, 114, 115, 111, 110, 115]⟩ : ByteArray) 55 60).bind fun bt159 => (if t144 = 0 then (if t147 = 0 then (if t150 = 0 then (if t152 = 0 then (if t156 = 0 then (if bt159.2.2 = 1 then (if t142 = 2 then (if t143 = true then (if t145 = 3 then (if t146 = true then (if t149 = true then (none) else ((cohousingref04_Same.f k t151 (([(⟨0, 50⟩ : S24), (⟨60, 100⟩ : S24)] : List (S24)))).bind fun t165 => (if t165 = true then ((cohousingref04_Same.f k t155 (([(⟨50, 60⟩ : S24)] : List (S24)))).bind fun t169 => (if t169 = true then (some true) else (none))) else (none)))) else (none)) else (none)) else (none)) else (none)) else (none)) else (none)) else (none)) else (none)) else (none)) else (none))) = some r := H
  have A6 := Aside0.mk A60
  clear A60
  replace H := Option.bind_eq_some_iff.mp H
  obtain ⟨⟨t159, t160, t161⟩, A70, H⟩ := H
  replace H : (if t144 = 0 then (if t147 = 0 then (if t150 = 0 then (if t152 = 0 then (if t156 = 0 then (if t161 = 1 then (if t142 = 2 then (if t143 = true then (if t145 = 3 then (if t146 = true then (if t149 = true then (none) else ((cohousingref04_Same.f k t151 (([(⟨0, 50⟩ : S24), (⟨60, 100⟩ : S24)] : List (S24)))).bind fun t165 => (if t165 = true then ((cohousingref04_Same.f k t155 (([(⟨50, 60⟩ : S24)] : List (S24)))).bind fun t169 => (if t169 = true then (some true) else (none))) else (none)))) else (none)) else (none)) else (none)) else (none)) else (none)) else (none)) else (none)) else (none)) else (none)) else (none)) = some r := H
  have A7 := Aside0.mk A70
  clear A70
  by_cases c8 : t144 = 0
  · rw [if_pos c8] at H
    have c8b0 : (t144 == 0) = true := beq_iff_eq.mpr c8
    have c8b1 : (t144 != 0) = false := bne_eq_false_iff_eq.mpr c8
    clear c8
    by_cases c9 : t147 = 0
    · rw [if_pos c9] at H
      have c9b0 : (t147 == 0) = true := beq_iff_eq.mpr c9
      have c9b1 : (t147 != 0) = false := bne_eq_false_iff_eq.mpr c9
      clear c9
      by_cases c10 : t150 = 0
      · rw [if_pos c10] at H
        have c10b0 : (t150 == 0) = true := beq_iff_eq.mpr c10
        have c10b1 : (t150 != 0) = false := bne_eq_false_iff_eq.mpr c10
        clear c10
        by_cases c11 : t152 = 0
        · rw [if_pos c11] at H
          have c11b0 : (t152 == 0) = true := beq_iff_eq.mpr c11
          have c11b1 : (t152 != 0) = false := bne_eq_false_iff_eq.mpr c11
          clear c11
          by_cases c12 : t156 = 0
          · rw [if_pos c12] at H
            have c12b0 : (t156 == 0) = true := beq_iff_eq.mpr c12
            have c12b1 : (t156 != 0) = false := bne_eq_false_iff_eq.mpr c12
            clear c12
            by_cases c13 : t161 = 1
            · rw [if_pos c13] at H
              have c13b0 : (t161 == 1) = true := beq_iff_eq.mpr c13
              have c13b1 : (t161 != 1) = false := bne_eq_false_iff_eq.mpr c13
              clear c13
              by_cases c14 : t142 = 2
              · rw [if_pos c14] at H
                have c14b0 : (t142 == 2) = true := beq_iff_eq.mpr c14
                have c14b1 : (t142 != 2) = false := bne_eq_false_iff_eq.mpr c14
                clear c14
                by_cases c15 : t143 = true
                · subst c15
                  have H1 : (if t145 = 3 then (if t146 = true then (if t149 = true then (none) else ((cohousingref04_Same.f k t151 (([(⟨0, 50⟩ : S24), (⟨60, 100⟩ : S24)] : List (S24)))).bind fun t165 => (if t165 = true then ((cohousingref04_Same.f k t155 (([(⟨50, 60⟩ : S24)] : List (S24)))).bind fun t169 => (if t169 = true then (some true) else (none))) else (none)))) else (none)) else (none)) = some r := by rw [if_pos rfl] at H; exact H
                  clear H
                  have H := H1
                  clear H1
                  by_cases c16 : t145 = 3
                  · rw [if_pos c16] at H
                    have c16b0 : (t145 == 3) = true := beq_iff_eq.mpr c16
                    have c16b1 : (t145 != 3) = false := bne_eq_false_iff_eq.mpr c16
                    clear c16
                    by_cases c17 : t146 = true
                    · subst c17
                      have H1 : (if t149 = true then (none) else ((cohousingref04_Same.f k t151 (([(⟨0, 50⟩ : S24), (⟨60, 100⟩ : S24)] : List (S24)))).bind fun t165 => (if t165 = true then ((cohousingref04_Same.f k t155 (([(⟨50, 60⟩ : S24)] : List (S24)))).bind fun t169 => (if t169 = true then (some true) else (none))) else (none)))) = some r := by rw [if_pos rfl] at H; exact H
                      clear H
                      have H := H1
                      clear H1
                      by_cases c18 : t149 = true
                      · subst c18
                        have H1 : (none) = some r := by rw [if_pos rfl] at H; exact H
                        clear H
                        have H := H1
                        clear H1
                        exact absurd H (by simp)
                      · replace c18 := Bool.eq_false_iff.mpr c18
                        subst c18
                        have H1 : ((cohousingref04_Same.f k t151 (([(⟨0, 50⟩ : S24), (⟨60, 100⟩ : S24)] : List (S24)))).bind fun t165 => (if t165 = true then ((cohousingref04_Same.f k t155 (([(⟨50, 60⟩ : S24)] : List (S24)))).bind fun t169 => (if t169 = true then (some true) else (none))) else (none))) = some r := by rw [if_neg (show ¬ (false = true) by decide)] at H; exact H
                        clear H
                        have H := H1
                        clear H1
                        obtain ⟨y162, hy162⟩ : ∃ y_ : List (S24), y_ = (([(⟨0, 50⟩ : S24), (⟨60, 100⟩ : S24)] : List (S24))) := ⟨_, rfl⟩
                        replace H : ((cohousingref04_Same.f k t151 y162).bind fun t165 => (if t165 = true then ((cohousingref04_Same.f k t155 (([(⟨50, 60⟩ : S24)] : List (S24)))).bind fun t169 => (if t169 = true then (some true) else (none))) else (none))) = some r := by first | (rw [hy162]; with_reducible exact H) | (have H2_ := (Option.bind_some _ _).symm.trans H; rw [hy162]; with_reducible exact H2_) | (have H2_ := (Option.bind_some _ _).symm.trans H; with_reducible exact H2_) | with_reducible exact H | (rw [hy162]; exact H) | exact H
                        have Ny162 := Aside0.mk hy162
                        clear hy162
                        replace H := Option.bind_eq_some_iff.mp H
                        obtain ⟨t165, A190, H⟩ := H
                        replace H : (if t165 = true then ((cohousingref04_Same.f k t155 (([(⟨50, 60⟩ : S24)] : List (S24)))).bind fun t169 => (if t169 = true then (some true) else (none))) else (none)) = some r := H
                        have A19 := Aside0.mk A190
                        clear A190
                        by_cases c20 : t165 = true
                        · subst c20
                          have H1 : ((cohousingref04_Same.f k t155 (([(⟨50, 60⟩ : S24)] : List (S24)))).bind fun t169 => (if t169 = true then (some true) else (none))) = some r := by rw [if_pos rfl] at H; exact H
                          clear H
                          have H := H1
                          clear H1
                          obtain ⟨y166, hy166⟩ : ∃ y_ : List (S24), y_ = (([(⟨50, 60⟩ : S24)] : List (S24))) := ⟨_, rfl⟩
                          replace H : ((cohousingref04_Same.f k t155 y166).bind fun t169 => (if t169 = true then (some true) else (none))) = some r := by first | (rw [hy166]; with_reducible exact H) | (have H2_ := (Option.bind_some _ _).symm.trans H; rw [hy166]; with_reducible exact H2_) | (have H2_ := (Option.bind_some _ _).symm.trans H; with_reducible exact H2_) | with_reducible exact H | (rw [hy166]; exact H) | exact H
                          have Ny166 := Aside0.mk hy166
                          clear hy166
                          replace H := Option.bind_eq_some_iff.mp H
                          obtain ⟨t169, A210, H⟩ := H
                          replace H : (if t169 = true then (some true) else (none)) = some r := H
                          have A21 := Aside0.mk A210
                          clear A210
                          by_cases c22 : t169 = true
                          · subst c22
                            have H1 : (some true) = some r := by rw [if_pos rfl] at H; exact H
                            clear H
                            have H := H1
                            clear H1
                            obtain rfl := Option.some.inj H
                            go_enter Tryz.func10, Tryz.ntmps10
                            go_wp2_with (first | ((with_reducible refine gate_callee (f := 31) rfl ?_); refine goesL_ (some 19) rfl rfl Tryz.func31 (by kernel_rfl) rfl #[] rfl (by (try simp only [List.map_toArray, List.map_cons, List.map_nil]); first | done | rfl | (simp only [List.length_drop, List.length_take]; rfl)) ?_; (with_reducible refine (cohousinglaw16_example.calls  t139 _ A1.out).mono ?_); rintro e w23 ⟨v140, rfl, ho0, hb⟩; refine ⟨_, rfl, ?_⟩; have n0_ := Aside0.mk (Kd.R_lower ho0 (below_size (by repeat (first | (with_reducible first | exact HB.out | apply below_alloc | apply pw_below_drewN | apply below_drew1) | exact HB.out)))); have n1_ := Aside0.mk (below_step (by repeat (first | (with_reducible first | exact HB.out | apply below_alloc | apply pw_below_drewN | apply below_drew1) | exact HB.out)) hb); clear HB; have HO141 := n0_; have HB := n1_; clear n0_ n1_; (try clear hb); (try clear hb2); (try clear hk); (try clear hi); (try clear ho0); obtain ⟨Ao24, co24, eo24⟩ := Kd.R_slice HO141.out; subst eo24) | ((with_reducible refine gate_callee (f := 12) rfl ?_); refine goesL_ (some 22) rfl rfl Tryz.func12 (by kernel_rfl) rfl #[.slice Ao24 t139.length co24, .int .i64 1, .string (⟨#[112, 101, 114, 115, 111, 110, 115]⟩ : ByteArray), .int .i64 55, .int .i64 60] rfl (by (try simp only [List.map_toArray, List.map_cons, List.map_nil]); first | done | rfl | (simp only [List.length_drop, List.length_take]; rfl)) ?_; (with_reducible refine (facts_Value.calls _ _ t139 1 (⟨#[112, 101, 114, 115, 111, 110, 115]⟩ : ByteArray) 55 60 t142 true t144 _ ?side1 ?side2 A2.out).mono ?_); (case side1 => repeat (first | exact (Kd.R_reads' HO141.out).2.2 | (with_reducible refine Kd.C_alloc ?_ _) | (with_reducible refine Kd.C_drewN ?_ _) | (with_reducible refine Kd.C_drew ?_))); (case side2 => exact (Kd.R_reads' HO141.out).2.1); rintro e w25 ⟨rfl, hb⟩; refine ⟨_, rfl, ?_⟩; have n0_ := Aside0.mk (Kd.R_below (by (with_reducible repeat (first | apply Kd.R_alloc | apply Kd.R_drewN | apply Kd.R_drew)); exact HO141.out) hb); have n1_ := Aside0.mk (below_step (by repeat (first | (with_reducible first | exact HB.out | apply below_alloc | apply pw_below_drewN | apply below_drew1) | exact HB.out)) hb); clear HO141; clear HB; have HO141 := n0_; have HB := n1_; clear n0_ n1_; (try clear hb); (try clear hb2); (try clear hk); (try clear hi)) | ((with_reducible refine gate_callee (f := 12) rfl ?_); refine goesL_ (some 28) rfl rfl Tryz.func12 (by kernel_rfl) rfl #[.slice Ao24 t139.length co24, .int .i64 1, .string (⟨#[112, 101, 114, 115, 111, 110, 115]⟩ : ByteArray), .int .i64 55, .int .i64 70] rfl (by (try simp only [List.map_toArray, List.map_cons, List.map_nil]); first | done | rfl | (simp only [List.length_drop, List.length_take]; rfl)) ?_; (with_reducible refine (facts_Value.calls _ _ t139 1 (⟨#[112, 101, 114, 115, 111, 110, 115]⟩ : ByteArray) 55 70 t145 true t147 _ ?side1 ?side2 A3.out).mono ?_); (case side1 => repeat (first | exact (Kd.R_reads' HO141.out).2.2 | (with_reducible refine Kd.C_alloc ?_ _) | (with_reducible refine Kd.C_drewN ?_ _) | (with_reducible refine Kd.C_drew ?_))); (case side2 => exact (Kd.R_reads' HO141.out).2.1); rintro e w26 ⟨rfl, hb⟩; refine ⟨_, rfl, ?_⟩; have n0_ := Aside0.mk (Kd.R_below (by (with_reducible repeat (first | apply Kd.R_alloc | apply Kd.R_drewN | apply Kd.R_drew)); exact HO141.out) hb); have n1_ := Aside0.mk (below_step (by repeat (first | (with_reducible first | exact HB.out | apply below_alloc | apply pw_below_drewN | apply below_drew1) | exact HB.out)) hb); clear HO141; clear HB; have HO141 := n0_; have HB := n1_; clear n0_ n1_; (try clear hb); (try clear hb2); (try clear hk); (try clear hi)) | ((with_reducible refine gate_callee (f := 12) rfl ?_); refine goesL_ (some 34) rfl rfl Tryz.func12 (by kernel_rfl) rfl #[.slice Ao24 t139.length co24, .int .i64 1, .string (⟨#[112, 101, 114, 115, 111, 110, 115]⟩ : ByteArray), .int .i64 55, .int .i64 90] rfl (by (try simp only [List.map_toArray, List.map_cons, List.map_nil]); first | done | rfl | (simp only [List.length_drop, List.length_take]; rfl)) ?_; (with_reducible refine (facts_Value.calls _ _ t139 1 (⟨#[112, 101, 114, 115, 111, 110, 115]⟩ : ByteArray) 55 90 t148 false t150 _ ?side1 ?side2 A4.out).mono ?_); (case side1 => repeat (first | exact (Kd.R_reads' HO141.out).2.2 | (with_reducible refine Kd.C_alloc ?_ _) | (with_reducible refine Kd.C_drewN ?_ _) | (with_reducible refine Kd.C_drew ?_))); (case side2 => exact (Kd.R_reads' HO141.out).2.1); rintro e w27 ⟨rfl, hb⟩; refine ⟨_, rfl, ?_⟩; have n0_ := Aside0.mk (Kd.R_below (by (with_reducible repeat (first | apply Kd.R_alloc | apply Kd.R_drewN | apply Kd.R_drew)); exact HO141.out) hb); have n1_ := Aside0.mk (below_step (by repeat (first | (with_reducible first | exact HB.out | apply below_alloc | apply pw_below_drewN | apply below_drew1) | exact HB.out)) hb); clear HO141; clear HB; have HO141 := n0_; have HB := n1_; clear n0_ n1_; (try clear hb); (try clear hb2); (try clear hk); (try clear hi)) | ((with_reducible refine gate_callee (f := 13) rfl ?_); refine goesL_ (some 40) rfl rfl Tryz.func13 (by kernel_rfl) rfl #[.slice Ao24 t139.length co24, .int .i64 1, .string (⟨#[112, 101, 114, 115, 111, 110, 115]⟩ : ByteArray), .int .i64 2, .int .i64 75] rfl (by (try simp only [List.map_toArray, List.map_cons, List.map_nil]); first | done | rfl | (simp only [List.length_drop, List.length_take]; rfl)) ?_; (with_reducible refine (facts_Days.calls _ _ t139 1 (⟨#[112, 101, 114, 115, 111, 110, 115]⟩ : ByteArray) 2 75 t151 t152 _ ?side1 ?side2 A5.out).mono ?_); (case side1 => repeat (first | exact (Kd.R_reads' HO141.out).2.2 | (with_reducible refine Kd.C_alloc ?_ _) | (with_reducible refine Kd.C_drewN ?_ _) | (with_reducible refine Kd.C_drew ?_))); (case side2 => exact (Kd.R_reads' HO141.out).2.1); rintro e w28 ⟨v153, rfl, ho0, hb⟩; refine ⟨_, rfl, ?_⟩; have n0_ := Aside0.mk (Kd.R_below (by (with_reducible repeat (first | apply Kd.R_alloc | apply Kd.R_drewN | apply Kd.R_drew)); exact HO141.out) hb); have n1_ := Aside0.mk (Kd.R_lower ho0 (below_size (by repeat (first | (with_reducible first | exact HB.out | apply below_alloc | apply pw_below_drewN | apply below_drew1) | exact HB.out)))); have n2_ := Aside0.mk (below_step (by repeat (first | (with_reducible first | exact HB.out | apply below_alloc | apply pw_below_drewN | apply below_drew1) | exact HB.out)) hb); clear HO141; clear HB; have HO141 := n0_; have HO154 := n1_; have HB := n2_; clear n0_ n1_ n2_; (try clear hb); (try clear hb2); (try clear hk); (try clear hi); (try clear ho0)) | ((with_reducible refine gate_callee (f := 15) rfl ?_); refine goesL_ (some 45) rfl rfl Tryz.func15 (by kernel_rfl) rfl #[.slice Ao24 t139.length co24, .int .i64 1, .string (⟨#[112, 101, 114, 115, 111, 110, 115]⟩ : ByteArray), .int .i64 60, .int .i64 70] rfl (by (try simp only [List.map_toArray, List.map_cons, List.map_nil]); first | done | rfl | (simp only [List.length_drop, List.length_take]; rfl)) ?_; (with_reducible refine (facts_Differ.calls _ _ t139 1 (⟨#[112, 101, 114, 115, 111, 110, 115]⟩ : ByteArray) 60 70 t155 t156 _ ?side1 ?side2 A6.out).mono ?_); (case side1 => repeat (first | exact (Kd.R_reads' HO141.out).2.2 | (with_reducible refine Kd.C_alloc ?_ _) | (with_reducible refine Kd.C_drewN ?_ _) | (with_reducible refine Kd.C_drew ?_))); (case side2 => exact (Kd.R_reads' HO141.out).2.1); rintro e w29 ⟨v157, rfl, ho0, hb⟩; refine ⟨_, rfl, ?_⟩; have n0_ := Aside0.mk (Kd.R_below (by (with_reducible repeat (first | apply Kd.R_alloc | apply Kd.R_drewN | apply Kd.R_drew)); exact HO141.out) hb); have n1_ := Aside0.mk (Kd.R_elder' (by (with_reducible repeat (first | apply Kd.R_alloc | apply Kd.R_drewN | apply Kd.R_drew)); exact HO154.out) (Kd.R_base ho0) hb); have n2_ := Aside0.mk (Kd.R_lower (Kd.R_new' ho0 (Kd.R_lt (by (with_reducible repeat (first | apply Kd.R_alloc | apply Kd.R_drewN | apply Kd.R_drew)); exact HO154.out))) (below_size (by repeat (first | (with_reducible first | exact HB.out | apply below_alloc | apply pw_below_drewN | apply below_drew1) | exact HB.out)))); have n3_ := Aside0.mk (below_step (by repeat (first | (with_reducible first | exact HB.out | apply below_alloc | apply pw_below_drewN | apply below_drew1) | exact HB.out)) hb); clear HO141; clear HO154; clear HB; have HO141 := n0_; have HO154 := n1_; have HO158 := n2_; have HB := n3_; clear n0_ n1_ n2_ n3_; (try clear hb); (try clear hb2); (try clear hk); (try clear hi); (try clear ho0)) | ((with_reducible refine gate_callee (f := 12) rfl ?_); refine goesL_ (some 50) rfl rfl Tryz.func12 (by kernel_rfl) rfl #[.slice Ao24 t139.length co24, .int .i64 1, .string (⟨#[80, 101, 114, 115, 111, 110, 115]⟩ : ByteArray), .int .i64 55, .int .i64 60] rfl (by (try simp only [List.map_toArray, List.map_cons, List.map_nil]); first | done | rfl | (simp only [List.length_drop, List.length_take]; rfl)) ?_; (with_reducible refine (facts_Value.calls _ _ t139 1 (⟨#[80, 101, 114, 115, 111, 110, 115]⟩ : ByteArray) 55 60 t159 t160 t161 _ ?side1 ?side2 A7.out).mono ?_); (case side1 => repeat (first | exact (Kd.R_reads' HO141.out).2.2 | (with_reducible refine Kd.C_alloc ?_ _) | (with_reducible refine Kd.C_drewN ?_ _) | (with_reducible refine Kd.C_drew ?_))); (case side2 => exact (Kd.R_reads' HO141.out).2.1); rintro e w30 ⟨rfl, hb⟩; refine ⟨_, rfl, ?_⟩; have n0_ := Aside0.mk (Kd.R_below (by (with_reducible repeat (first | apply Kd.R_alloc | apply Kd.R_drewN | apply Kd.R_drew)); exact HO141.out) hb); have n1_ := Aside0.mk (Kd.R_below (by (with_reducible repeat (first | apply Kd.R_alloc | apply Kd.R_drewN | apply Kd.R_drew)); exact HO154.out) hb); have n2_ := Aside0.mk (Kd.R_below (by (with_reducible repeat (first | apply Kd.R_alloc | apply Kd.R_drewN | apply Kd.R_drew)); exact HO158.out) hb); have n3_ := Aside0.mk (below_step (by repeat (first | (with_reducible first | exact HB.out | apply below_alloc | apply pw_below_drewN | apply below_drew1) | exact HB.out)) hb); clear HO141; clear HO154; clear HO158; clear HB; have HO141 := n0_; have HO154 := n1_; have HO158 := n2_; have HB := n3_; clear n0_ n1_ n2_ n3_; (try clear hb); (try clear hb2); (try clear hk); (try clear hi)) | ((with_reducible refine gate_dst (N := 99) rfl ?_); (try (refine gate_guard (by rfl) ?_; dsimp only)); refine Kd.R_lit k24 _ 24 ?hg (N := 99) ?hd (xs := ([(⟨0, 50⟩ : S24), (⟨60, 100⟩ : S24)] : List (S24))) (inner := [.int .i64 0, .int .i64 50, .int .i64 60, .int .i64 100]) (ok := fun _ => True) (okp := fun _ => True) ?hr ?hp (fun _ hk => hk) trivial (Below.refl _ _) (Nat.le_refl _) (by simp) ?_; (case hd => rfl); (case hg => rfl); (case hr => first | (go_simp; done) | (go_simp; rfl)); (case hp => exact (Reps.c2 (show Kd.M k24 _ _ _ (⟨0, 50⟩ : S24) [.int .i64 0, .int .i64 50] from (k24_mkM _ _ _ (⟨0, 50⟩ : S24) )) (Reps.c2 (show Kd.M k24 _ _ _ (⟨60, 100⟩ : S24) [.int .i64 60, .int .i64 100] from (k24_mkM _ _ _ (⟨60, 100⟩ : S24) )) (Reps.none _ _)))); intro v163 w31 ho32 hb hg_ hnew_; clear hg_ hnew_; (first | rw [← Ny162.out] at ho32 | (simp only [Int.reduceToNat] at ho32; rw [← Ny162.out] at ho32)); have n0_ := Aside0.mk (Kd.R_below (by (with_reducible repeat (first | apply Kd.R_alloc | apply Kd.R_drewN | apply Kd.R_drew)); exact HO141.out) hb); have n1_ := Aside0.mk (Kd.R_elder' (by (with_reducible repeat (first | apply Kd.R_alloc | apply Kd.R_drewN | apply Kd.R_drew)); exact HO154.out) (Kd.R_base ho32) hb); have n2_ := Aside0.mk (Kd.R_elder' (by (with_reducible repeat (first | apply Kd.R_alloc | apply Kd.R_drewN | apply Kd.R_drew)); exact HO158.out) (Kd.R_base ho32) hb); have n3_ := Aside0.mk (Kd.R_lower (Kd.R_new' (Kd.R_new' ho32 (Kd.R_lt (by (with_reducible repeat (first | apply Kd.R_alloc | apply Kd.R_drewN | apply Kd.R_drew)); exact HO154.out))) (Kd.R_lt (by (with_reducible repeat (first | apply Kd.R_alloc | apply Kd.R_drewN | apply Kd.R_drew)); exact HO158.out))) (below_size (by repeat (first | (with_reducible first | exact HB.out | apply below_alloc | apply pw_below_drewN | apply below_drew1) | exact HB.out)))); have n4_ := Aside0.mk (below_step (by repeat (first | (with_reducible first | exact HB.out | apply below_alloc | apply pw_below_drewN | apply below_drew1) | exact HB.out)) hb); clear HO141; clear HO154; clear HO158; clear HB; have HO141 := n0_; have HO154 := n1_; have HO158 := n2_; have HO164 := n3_; have HB := n4_; clear n0_ n1_ n2_ n3_ n4_; clear hb ho32; obtain ⟨Ao33, co33, eo33⟩ := Kd.R_slice HO154.out; subst eo33; obtain ⟨Ao34, co34, eo34⟩ := Kd.R_slice HO164.out; subst eo34) | (go_at_call 14; (with_reducible refine (cohousingref04_Same.calls k _ _ t151 _ _ y162 true _ ?side1 ?side2 ?side3 ?side4 A19.out).mono ?_); (case side1 => repeat (first | exact (Kd.R_reads' HO154.out).2.2 | (with_reducible refine Kd.C_alloc ?_ _) | (with_reducible refine Kd.C_drewN ?_ _) | (with_reducible refine Kd.C_drew ?_))); (case side2 => exact (Kd.R_reads' HO154.out).2.1); (case side3 => repeat (first | exact (Kd.R_reads' HO164.out).2.2 | (with_reducible refine Kd.C_alloc ?_ _) | (with_reducible refine Kd.C_drewN ?_ _) | (with_reducible refine Kd.C_drew ?_))); (case side4 => exact (Kd.R_reads' HO164.out).2.1); rintro e w' ⟨rfl, ⟨nd, rfl⟩⟩) | ((with_reducible refine gate_dst (N := 105) rfl ?_); (try (refine gate_guard (by rfl) ?_; dsimp only)); refine Kd.R_lit k24 _ 24 ?hg (N := 105) ?hd (xs := ([(⟨50, 60⟩ : S24)] : List (S24))) (inner := [.int .i64 50, .int .i64 60]) (ok := fun _ => True) (okp := fun _ => True) ?hr ?hp (fun _ hk => hk) trivial (Below.refl _ _) (Nat.le_refl _) (by simp) ?_; (case hd => rfl); (case hg => rfl); (case hr => first | (go_simp; done) | (go_simp; rfl)); (case hp => exact (Reps.c2 (show Kd.M k24 _ _ _ (⟨50, 60⟩ : S24) [.int .i64 50, .int .i64 60] from (k24_mkM _ _ _ (⟨50, 60⟩ : S24) )) (Reps.none _ _))); intro v167 w35 ho36 hb hg_ hnew_; clear hg_ hnew_; (first | rw [← Ny166.out] at ho36 | (simp only [Int.reduceToNat] at ho36; rw [← Ny166.out] at ho36)); have n0_ := Aside0.mk (Kd.R_below (by (with_reducible repeat (first | apply Kd.R_alloc | apply Kd.R_drewN | apply Kd.R_drew)); exact HO141.out) hb); have n1_ := Aside0.mk (Kd.R_elder' (by (with_reducible repeat (first | apply Kd.R_alloc | apply Kd.R_drewN | apply Kd.R_drew)); exact HO154.out) (Kd.R_base ho36) hb); have n2_ := Aside0.mk (Kd.R_elder' (by (with_reducible repeat (first | apply Kd.R_alloc | apply Kd.R_drewN | apply Kd.R_drew)); exact HO158.out) (Kd.R_base ho36) hb); have n3_ := Aside0.mk (Kd.R_elder' (by (with_reducible repeat (first | apply Kd.R_alloc | apply Kd.R_drewN | apply Kd.R_drew)); exact HO164.out) (Kd.R_base ho36) hb); have n4_ := Aside0.mk (Kd.R_lower (Kd.R_new' (Kd.R_new' (Kd.R_new' ho36 (Kd.R_lt (by (with_reducible repeat (first | apply Kd.R_alloc | apply Kd.R_drewN | apply Kd.R_drew)); exact HO154.out))) (Kd.R_lt (by (with_reducible repeat (first | apply Kd.R_alloc | apply Kd.R_drewN | apply Kd.R_drew)); exact HO158.out))) (Kd.R_lt (by (with_reducible repeat (first | apply Kd.R_alloc | apply Kd.R_drewN | apply Kd.R_drew)); exact HO164.out))) (below_size (by repeat (first | (with_reducible first | exact HB.out | apply below_alloc | apply pw_below_drewN | apply below_drew1) | exact HB.out)))); have n5_ := Aside0.mk (below_step (by repeat (first | (with_reducible first | exact HB.out | apply below_alloc | apply pw_below_drewN | apply below_drew1) | exact HB.out)) hb); clear HO141; clear HO154; clear HO158; clear HO164; clear HB; have HO141 := n0_; have HO154 := n1_; have HO158 := n2_; have HO164 := n3_; have HO168 := n4_; have HB := n5_; clear n0_ n1_ n2_ n3_ n4_ n5_; clear hb ho36; obtain ⟨Ao37, co37, eo37⟩ := Kd.R_slice HO158.out; subst eo37; obtain ⟨Ao38, co38, eo38⟩ := Kd.R_slice HO168.out; subst eo38) | (go_at_call 14; (with_reducible refine (cohousingref04_Same.calls k _ _ t155 _ _ y166 true _ ?side1 ?side2 ?side3 ?side4 A21.out).mono ?_); (case side1 => repeat (first | exact (Kd.R_reads' HO158.out).2.2 | (with_reducible refine Kd.C_alloc ?_ _) | (with_reducible refine Kd.C_drewN ?_ _) | (with_reducible refine Kd.C_drew ?_))); (case side2 => exact (Kd.R_reads' HO158.out).2.1); (case side3 => repeat (first | exact (Kd.R_reads' HO168.out).2.2 | (with_reducible refine Kd.C_alloc ?_ _) | (with_reducible refine Kd.C_drewN ?_ _) | (with_reducible refine Kd.C_drew ?_))); (case side4 => exact (Kd.R_reads' HO168.out).2.1); rintro e w' ⟨rfl, ⟨nd, rfl⟩⟩))
                            go_ret
                            exact ⟨by first | rfl | (simp [errW_none, errW_some] <;> rfl) | (simp [*, errW_none, errW_some] <;> rfl), by repeat (first | (with_reducible first | exact HB.out | apply below_alloc | apply pw_below_drewN | apply below_drew1) | exact HB.out)⟩
                          · replace c22 := Bool.eq_false_iff.mpr c22
                            subst c22
                            have H1 : (none) = some r := by rw [if_neg (show ¬ (false = true) by decide)] at H; exact H
                            clear H
                            have H := H1
                            clear H1
                            exact absurd H (by simp)
                        · replace c20 := Bool.eq_false_iff.mpr c20
                          subst c20
                          have H1 : (none) = some r := by rw [if_neg (show ¬ (false = true) by decide)] at H; exact H
                          clear H
                          have H := H1
                          clear H1
                          exact absurd H (by simp)
                    · replace c17 := Bool.eq_false_iff.mpr c17
                      subst c17
                      have H1 : (none) = some r := by rw [if_neg (show ¬ (false = true) by decide)] at H; exact H
                      clear H
                      have H := H1
                      clear H1
                      exact absurd H (by simp)
                  · rw [if_neg c16] at H
                    exact absurd H (by simp)
                · replace c15 := Bool.eq_false_iff.mpr c15
                  subst c15
                  have H1 : (none) = some r := by rw [if_neg (show ¬ (false = true) by decide)] at H; exact H
                  clear H
                  have H := H1
                  clear H1
                  exact absurd H (by simp)
              · rw [if_neg c14] at H
                exact absurd H (by simp)
            · rw [if_neg c13] at H
              exact absurd H (by simp)
          · rw [if_neg c12] at H
            exact absurd H (by simp)
        · rw [if_neg c11] at H
          exact absurd H (by simp)
      · rw [if_neg c10] at H
        exact absurd H (by simp)
    · rw [if_neg c9] at H
      exact absurd H (by simp)
  · rw [if_neg c8] at H
    exact absurd H (by simp)

end Go.Proofs.YthcjocojngochaaGreatDoor.X
