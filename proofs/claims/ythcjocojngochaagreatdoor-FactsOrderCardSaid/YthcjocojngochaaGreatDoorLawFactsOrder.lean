/- The law FactsOrder: every input (of the given reading) answers true. The walk is printed; the pure law lies in YthcjocojngochaaGreatDoorPureFactsOrder. Conditions: those of the given row (its listed variables, tied by the given card). -/
import Derived.Test.YthcjocojngochaaGreatDoorCards
import Derived.Test.YthcjocojngochaaGreatDoorTie
import Derived.Test.YthcjocojngochaaGreatDoorPureFactsOrder
import Derived.Test.YthcjocojngochaaGreatDoorXx21
import Derived.WalkKit
import Derived.ProofKit
import Derived.OpenShut
import Derived.ShutString
import Derived.ChangeOld
import Derived.Below
import Derived.SizedLaws
import Derived.Lay
import Derived.SevenTiedAt
import Derived.Handy
import Derived.Deep.DeepHandedRow
import Derived.Lib.LaidTab
import Derived.Lib.SmallJoins
import Derived.Carry
import Derived.Deep.SlicePairs
import Derived.Test.YthcjocojngochaaGreatDoorWSized
namespace Go.Proofs.YthcjocojngochaaGreatDoor.factsOrder
open Go.ChangeShapes Go.WideShapes Go.ChangeAt Go.RowKit Go.Joins
open Go.ChangeMaps (open_string shut_string)
open Go.Proofs.YthcjocojngochaaGreatDoor.X Go.Proofs.YthcjocojngochaaGreatDoorW.PrintWords
set_option linter.unusedVariables false
set_option linter.unusedSimpArgs false
theorem own : ownKnob Tryz.prog.godebug = none := by kernel_rfl
theorem laidOut : laidOutB Tryz.prog = true := by kernel_rfl
set_option maxRecDepth 100000 in
theorem open_elem26 {H : Type} {enc : TypeId × Value → H} {W : World} {base : Nat} {sp : Nat → Bool} {held : Bool} {n : Nat} {a : Addr} {cs : List Value} {d : DataW H × List MemPlace} (h1 : W.cells? base a 7 = some cs) (h2 : DataW.trod enc Tryz.prog W base sp held n 26 cs = some d) :
    ∃ z : S26, (∀ (j : Nat) (u : Value), ([.int .i64 z.f0, .string z.f1, .int .i64 z.f2, .int .i64 z.f3.f0, .int .i64 z.f3.f1, .int .i64 z.f4, .bool z.f5] : List Value)[j]? = some u → W.cell? (a.add j) = some u) ∧ (Lit.int .i64 z.f0).wf = true ∧ z.f1.size ≤ maxLen ∧ (Lit.int .i64 z.f2).wf = true ∧ (Lit.int .i64 z.f3.f0).wf = true ∧ (Lit.int .i64 z.f3.f1).wf = true ∧ (Lit.int .i64 z.f4).wf = true ∧ True := by
  obtain ⟨_, hlen, hcell⟩ := World.cells?_some h1
  have c3 : Tryz.prog.cellsOf 3 = 1 := by kernel_rfl
  have c4 : Tryz.prog.cellsOf 4 = 1 := by kernel_rfl
  have c9 : Tryz.prog.cellsOf 9 = 1 := by kernel_rfl
  have c24 : Tryz.prog.cellsOf 24 = 2 := by kernel_rfl
  match cs, hlen with
  | [v0, v1, v2, v3, v4, v5, v6], _ =>
    obtain ⟨xs0, n0, _, _, _, hx0, hf0⟩ := DataW.trod_struct Tryz.underlying26 h2
    replace hx0 : xs0.length = 6 := hx0
    match xs0, hx0 with
    | [y0_0, y0_1, y0_2, y0_3, y0_4, y0_5], _ =>
      have g0_0 := hf0 0 _ rfl
      have g0_1 := hf0 1 _ rfl
      have g0_2 := hf0 2 _ rfl
      have g0_3 := hf0 3 _ rfl
      have g0_4 := hf0 4 _ rfl
      have g0_5 := hf0 5 _ rfl
      simp [c3, c4, c9, c24] at g0_0 g0_1 g0_2 g0_3 g0_4 g0_5
      obtain ⟨u0_0, e0_0, _, w0_0⟩ := DataW.trod_int Tryz.underlying3 g0_0
      obtain ⟨u0_1, e0_1, _, w0_1⟩ := DataW.trod_string Tryz.underlying9 g0_1
      obtain ⟨u0_2, e0_2, _, w0_2⟩ := DataW.trod_int Tryz.underlying3 g0_2
      obtain ⟨u0_4, e0_4, _, w0_4⟩ := DataW.trod_int Tryz.underlying3 g0_4
      obtain ⟨u0_5, e0_5, _⟩ := DataW.trod_bool Tryz.underlying4 g0_5
      have w0_5 : True := trivial
      obtain ⟨xs1, n1, _, _, _, hx1, hf1⟩ := DataW.trod_struct Tryz.underlying24 g0_3
      replace hx1 : xs1.length = 2 := hx1
      match xs1, hx1 with
      | [y1_0, y1_1], _ =>
        have g1_0 := hf1 0 _ rfl
        have g1_1 := hf1 1 _ rfl
        simp [c3, c4, c9, c24] at g1_0 g1_1
        obtain ⟨u1_0, e1_0, _, w1_0⟩ := DataW.trod_int Tryz.underlying3 g1_0
        obtain ⟨u1_1, e1_1, _, w1_1⟩ := DataW.trod_int Tryz.underlying3 g1_1
        simp only [List.cons.injEq, and_true] at e0_0 e0_1 e0_2 e0_4 e0_5 e1_0 e1_1
        subst e0_0 e0_1 e0_2 e0_4 e0_5 e1_0 e1_1
        refine ⟨⟨u0_0, u0_1, u0_2, ⟨u1_0, u1_1⟩, u0_4, u0_5⟩, fun j u hu => ?_, w0_0, w0_1, w0_2, w1_0, w1_1, w0_4, w0_5⟩
        have hj : j < 7 := (List.getElem?_eq_some_iff.mp hu).1
        rw [hcell j hj]
        exact hu
theorem open_rows26 {H : Type} {enc : TypeId × Value → H} {W : World} {base : Nat} {sp : Nat → Bool} {held : Bool} {a : Option Addr} {len cap : Nat} {d : DataW H} {p : List MemPlace} (h : DataW.Trod enc Tryz.prog W base sp held 22 (.slice a len cap) d p) :
    ∃ l : List S26, len = l.length ∧ l.length ≤ cap ∧ Kd.C k26 W a l.length l ∧ (∀ x ∈ l, (Lit.int .i64 x.f0).wf = true ∧ x.f1.size ≤ maxLen ∧ (Lit.int .i64 x.f2).wf = true ∧ (Lit.int .i64 x.f3.f0).wf = true ∧ (Lit.int .i64 x.f3.f1).wf = true ∧ (Lit.int .i64 x.f4).wf = true ∧ True) ∧
      ∀ (ts : List TypeId) (ds : List (DataW H)) (j : Nat), (DataW.weightsEach Tryz.prog ts ds).all (· ≤ reachBytes) = true → ts[j]? = some 22 → ds[j]? = some d → l.length * 64 ≤ 140737488351232 := by
  obtain ⟨fuel, hf⟩ := h
  have ce : Tryz.prog.cellsOf 26 = 7 := by kernel_rfl
  rcases Go.Deep.open_slice Tryz.underlying22 hf with ⟨hcs, hd⟩ | ⟨x, n, c, m, q, D, P, hcs, _, hl, hm, hmm, hx, hi⟩
  · simp [Value.cells] at hcs
    obtain ⟨rfl, rfl, rfl⟩ := hcs
    exact ⟨[], rfl, Nat.le_refl _, ⟨rfl, by simp, fun h => absurd h (by simp)⟩, by simp, fun _ _ _ _ _ _ => by simp⟩
  · simp [Value.cells] at hcs
    obtain ⟨rfl, rfl, rfl⟩ := hcs
    rw [ce] at hi
    have hlm : len ≤ m := by rw [hmm]; split <;> omega
    have each : ∀ i, i < len → _ := fun i hil => (fun ⟨_, e1, e2⟩ => open_elem26 e1 e2) (hi i (by omega))
    have inh : Inhabited S26 := ⟨z26⟩
    obtain ⟨z, hz⟩ := Go.Deep.choose_lt each
    have hml : maxLen ≤ 9223372036854775807 := by decide
    refine ⟨(List.range len).map z, by simp, by simpa using hl, ⟨rfl, by simp only [List.length_map, List.length_range]; omega, fun _ => ⟨_, rfl, fun j s hj => ⟨_, rfl, k26_mk _ _, fun i u hu => ?_⟩⟩⟩, ?_, ?_⟩
    · obtain ⟨hjl, es⟩ := List.getElem?_eq_some_iff.mp hj
      have hjn : j < len := by simpa using hjl
      rw [List.getElem_map, List.getElem_range] at es
      have y := (hz j hjn).1 i u (by rw [es]; exact hu)
      rw [Addr.add_add] at y
      exact y
    · intro s hs
      obtain ⟨j, hj, rfl⟩ := List.mem_map.mp hs
      exact (hz j (List.mem_range.mp hj)).2
    · intro ts ds j hsz ht hd
      simp only [Prod.mk.injEq] at hx
      rw [hx.1] at hd
      have y := sized_slice hsz ht hd Tryz.underlying22
      have hb : Tryz.prog.bytesOf 26 = 64 := by kernel_rfl
      rw [hb] at y
      simp only [List.length_map, List.length_range] at y ⊢
      have : reachBytes = 140737488351232 := by decide
      omega
def IsRow (k : IntKind) (w : World) (a : Option Addr) (len cap : Nat) (zs : List Int) : Prop :=
  (a = none ∧ len = 0 ∧ cap = 0 ∧ zs = []) ∨
  ∃ x, a = some x ∧ len ≤ cap ∧ cap ≤ maxLen ∧ zs.length = cap ∧ (∀ i, i < zs.length → w.cell? (x.add i) = some (.int k (zs.getD i 0))) ∧ ∀ n ∈ zs, (Lit.int k n).wf = true
set_option maxRecDepth 100000 in
theorem contract (H : Type) (enc : TypeId × Value → H) (W : World) (base : Nat) (args : Array Value) (ds gs : List (DataW H)) (before : List MemPlace)
    (hval : ∀ (j : Nat) t v, Tryz.f7.params[j]? = some t → args[j]? = some v → Value.okWide Tryz.prog W .any base t v)
    (hW : DataW.Whole enc Tryz.prog Tryz.f7.params.toList Rows.factsOrderSpec.vars false W args.toList ds gs before)
    (hsz : (DataW.weightsEach Tryz.prog (Tryz.f7.params.toList ++ Rows.factsOrderSpec.plain.varTypes Tryz.prog) (ds ++ gs)).all (· ≤ reachBytes) = true)
    : Calls Tryz.prog 7 args W fun e W' => ∃ v, e = .returned v ∧ Rows.factsOrderSpec.post enc Tryz.prog Tryz.f7 false true false false W args v W' := by
  have hW' := hW
  obtain ⟨p, q, hA0, hV, rfl, hfz, hnd⟩ := hW
  have hA : DataW.TrodAll enc Tryz.prog W 0 (fun _ => true) true Tryz.f7.params.toList args.toList ds p := hA0
  rw [Tryz.params7] at hA hval hsz
  obtain ⟨v0, vs0, d0, ds0, p0, q0, hargs, rfl, rfl, h0, r0⟩ := trodAll_cons hA
  obtain ⟨v1, vs1, d1, ds1, p1, q1, rfl, rfl, rfl, h1, r1⟩ := trodAll_cons r0
  obtain ⟨v2, vs2, d2, ds2, p2, q2, rfl, rfl, rfl, h2, r2⟩ := trodAll_cons r1
  obtain ⟨v3, vs3, d3, ds3, p3, q3, rfl, rfl, rfl, h3, r3⟩ := trodAll_cons r2
  obtain ⟨v4, vs4, d4, ds4, p4, q4, rfl, rfl, rfl, h4, r4⟩ := trodAll_cons r3
  obtain ⟨v5, vs5, d5, ds5, p5, q5, rfl, rfl, rfl, h5, r5⟩ := trodAll_cons r4
  obtain ⟨v6, vs6, d6, ds6, p6, q6, rfl, rfl, rfl, h6, r6⟩ := trodAll_cons r5
  obtain ⟨rfl, rfl, rfl⟩ := trodAll_nil r6
  obtain rfl : args = #[v0, v1, v2, v3, v4, v5, v6] := by cases args; simp_all
  obtain ⟨rfl, rfl⟩ := trodVars_none hV
  obtain ⟨a0, len0, cap0, rfl⟩ := okWide_slice Tryz.underlying22 (hval 0 22 v0 rfl rfl)
  have k0 := h0
  have lt0 : ∀ x ∈ p0, x.block < W.heap.size := by obtain ⟨m, hm⟩ := k0; exact DataW.trod_lt m _ _ _ hm
  obtain ⟨l0, rfl, hc0, hr0, hw0, z0⟩ := open_rows26 h0
  have y0 := z0 _ _ 0 hsz rfl rfl
  obtain ⟨a1, len1, cap1, rfl⟩ := okWide_slice Tryz.underlying44 (hval 1 44 v1 rfl rfl)
  have k1 := h1
  have lt1 : ∀ x ∈ p1, x.block < W.heap.size := by obtain ⟨m, hm⟩ := k1; exact DataW.trod_lt m _ _ _ hm
  obtain ⟨z1, w1⟩ : ∃ zs, IsRow .i64 W a1 len1 cap1 zs := by
    obtain ⟨fuel, hf⟩ := h1
    rcases open_ints Tryz.underlying44 Tryz.underlying3 (by kernel_rfl) hf with ⟨hcs, _⟩ | ⟨x, l, c, zs, hcs, _, hl, hm, hz, _, hcell, hwz⟩
    · simp [Value.cells] at hcs
      obtain ⟨rfl, rfl, rfl⟩ := hcs
      exact ⟨[], .inl ⟨rfl, rfl, rfl, rfl⟩⟩
    · simp [Value.cells] at hcs
      obtain ⟨rfl, rfl, rfl⟩ := hcs
      exact ⟨zs, .inr ⟨_, rfl, hl, hm, by simpa using hz, hcell, hwz⟩⟩
  have y1 : len1 * 8 ≤ 140737488351232 := sized_ints hsz (j := 1) (t := 44) rfl rfl Tryz.underlying44 Tryz.underlying3 (by kernel_rfl) (by kernel_rfl) h1
  obtain ⟨l1, rfl, hr1, hm1, hw1, hc1⟩ := ReadsInt.ofRowC w1
  have k2 := h2
  have lt2 : ∀ x ∈ p2, x.block < W.heap.size := by obtain ⟨m, hm⟩ := k2; exact DataW.trod_lt m _ _ _ hm
  obtain ⟨a2, rfl, rfl, rfl, w2⟩ := open_int Tryz.underlying3 (hval 2 3 v2 rfl rfl) h2
  have k3 := h3
  have lt3 : ∀ x ∈ p3, x.block < W.heap.size := by obtain ⟨m, hm⟩ := k3; exact DataW.trod_lt m _ _ _ hm
  obtain ⟨a3, rfl, rfl, rfl, y3⟩ := open_string Tryz.underlying9 (hval 3 9 v3 rfl rfl) h3
  have w3 : a3.size ≤ 140737488351232 := by
    have z := sized_string hsz (j := 3) (t := 9) rfl rfl
    rw [Array.length_toList] at z
    exact z
  have k4 := h4
  have lt4 : ∀ x ∈ p4, x.block < W.heap.size := by obtain ⟨m, hm⟩ := k4; exact DataW.trod_lt m _ _ _ hm
  obtain ⟨a4, rfl, rfl, rfl, w4⟩ := open_int Tryz.underlying3 (hval 4 3 v4 rfl rfl) h4
  have k5 := h5
  have lt5 : ∀ x ∈ p5, x.block < W.heap.size := by obtain ⟨m, hm⟩ := k5; exact DataW.trod_lt m _ _ _ hm
  obtain ⟨a5, rfl, rfl, rfl, w5⟩ := open_int Tryz.underlying3 (hval 5 3 v5 rfl rfl) h5
  have k6 := h6
  have lt6 : ∀ x ∈ p6, x.block < W.heap.size := by obtain ⟨m, hm⟩ := k6; exact DataW.trod_lt m _ _ _ hm
  obtain ⟨a6, rfl, rfl, rfl, w6⟩ := open_int Tryz.underlying3 (hval 6 3 v6 rfl rfl) h6
  clear hA0 hval hsz
  obtain ⟨k, hp⟩ := Pure.FactsOrder l0 l1 a2 a3 a4 a5 a6 y0 hw0 hm1 y1 hw1 w2 w3 w4 w5 w6
  refine (cohousinglaw16_FactsOrder.calls k _ _ l0 _ _ l1 a2 a3 a4 a5 a6 true W hr0 hc0 (Kd.C_of_reads (d := (0 : Int)) (h1 := fun _ => rfl) hr1) hc1 hp).mono ?_
  rintro e W' ⟨rfl, bel⟩
  exact ⟨_, rfl, _, _, _, [], _, [], hW', trodAll_mk1 (shut_bool Tryz.underlying4 _), (trodAll_cons_mk (Below.trod laidOut (by kernel_rfl) (of_decide_eq_true (by kernel_rfl)) k0 bel lt0) (trodAll_cons_mk (Below.trod laidOut (by kernel_rfl) (of_decide_eq_true (by kernel_rfl)) k1 bel lt1) (trodAll_cons_mk (Below.trod laidOut (by kernel_rfl) (of_decide_eq_true (by kernel_rfl)) k2 bel lt2) (trodAll_cons_mk (Below.trod laidOut (by kernel_rfl) (of_decide_eq_true (by kernel_rfl)) k3 bel lt3) (trodAll_cons_mk (Below.trod laidOut (by kernel_rfl) (of_decide_eq_true (by kernel_rfl)) k4 bel lt4) (trodAll_cons_mk (Below.trod laidOut (by kernel_rfl) (of_decide_eq_true (by kernel_rfl)) k5 bel lt5) (trodAll_cons_mk (Below.trod laidOut (by kernel_rfl) (of_decide_eq_true (by kernel_rfl)) k6 bel lt6) trodAll_mk0))))))), rfl, bel.frame _, fun h => by cases h⟩
set_option maxRecDepth 100000 in
theorem lifted (os : Os) (started : os.Started) (H : Type) (enc : TypeId × Value → H) :
    ReturnsInHanded {} Tryz.checked os 7 .any (fun w args => (Rows.factsOrderSpec.pre enc Tryz.prog Tryz.f7 [] false w args ∧ laidMetH Tryz.prog Rows.factsOrderRow.laid w) ∧ sizedMet enc Tryz.prog Tryz.f7 (OpenSpec.ofChange Rows.factsOrderSpec) false w args)
      (Rows.factsOrderSpec.post enc Tryz.prog Tryz.f7 false true false false) := by
  refine returnsInHanded_of_change_and (C := Tryz.checked) (X := fun w _ => laidMetH Tryz.prog Rows.factsOrderRow.laid w) (fun _ _ _ hh h => h.of_heap hh) own started (by kernel_rfl) Tryz.func7
    (ChangeSpec.witness_shaped (enc := enc) (C := Tryz.checked) (os := os) (X := fun w _ => laidMetH Tryz.prog Rows.factsOrderRow.laid w) false (World.laidAll Tryz.prog os Rows.factsOrderRow.laid) #[.slice none 0 0, .slice none 0 0, .int .i64 0, .string ByteArray.empty, .int .i64 0, .int .i64 0, .int .i64 0] 8 (World.laidAll_os _ _ _)
      (World.shaped_of_ZipB (by kernel_rfl) (by kernel_rfl)) (by kernel_rfl) (by kernel_rfl) (by kernel_rfl)
      (by rw [MakeChecks.laidMetH_plain _ _ _ (by kernel_rfl)]; exact laidMet_laidAll _ (by kernel_rfl) (by kernel_rfl))) ?_
  intro W base args ds gs before hval hW _ hsz hL _
  exact contract H enc W base args ds gs before hval hW hsz
theorem said : Rows.FactsOrderSaid :=
  OpenClaim.holds_of_wide 7 Tryz.f7 rfl rfl rfl rfl rfl rfl rfl ⟨rfl, rfl, rfl, rfl, rfl⟩ rfl rfl rfl rfl rfl (by kernel_rfl) Tryz.func7 (by kernel_rfl)
    (of_decide_eq_true (by kernel_rfl)) (by unfold Func.isWrapper; first | (rw [if_pos (by decide +kernel)]; kernel_rfl) | (rw [if_neg (by decide +kernel)]; exact ⟨rfl, rfl⟩))
    (fun os started H enc _ => lifted os started H enc)
theorem proved : Rows.FactsOrderCardSaid :=
  Claim7.holds_tied_plain_at .later [] _ _ _ _ said (fun _ h => by cases h) (by kernel_rfl) (fun _ h => by cases h) factsOrder_row_tie rfl ⟨rfl, rfl⟩ (by kernel_rfl) rfl
    (fun f fn hf hfn => by
      obtain rfl : f = 7 := Option.some.inj ((show Tryz.prog.funcNamed "cohousing/cohousinglaw16.FactsOrder" = some 7 by kernel_rfl).symm.trans hf) |>.symm
      obtain rfl : fn = Tryz.f7 := (Option.some.inj (Tryz.func7.symm.trans hfn)).symm
      exact ⟨by kernel_rfl, fun j t ht => by
        rw [Tryz.params7] at ht
        have hm : t ∈ [22, 44, 3, 9, 3, 3, 3] := by simpa using Array.mem_of_getElem? ht
        have hall : (([22, 44, 3, 9, 3, 3, 3] : List Nat).all fun u => !Tryz.prog.wantsStandIn u) = true := by kernel_rfl
        exact (show Tryz.prog.wantsStandIn t = false by simpa using List.all_eq_true.1 hall t hm)⟩)
    (by kernel_rfl)
#print axioms proved
end Go.Proofs.YthcjocojngochaaGreatDoor.factsOrder
