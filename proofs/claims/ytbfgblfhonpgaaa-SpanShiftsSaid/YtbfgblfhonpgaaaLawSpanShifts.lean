/- The law SpanShifts: every input (of the given reading) answers true. The walk is printed; the pure law lies in YtbfgblfhonpgaaaPureSpanShifts. Conditions: those of the given row (its listed variables, tied by the given card). -/
import Derived.Test.YtbfgblfhonpgaaaRows
import Derived.Test.YtbfgblfhonpgaaaPureSpanShifts
import Derived.Test.YtbfgblfhonpgaaaXx18
import Derived.WalkKit
import Derived.ProofKit
import Derived.OpenShut
import Derived.ShutString
import Derived.ChangeOld
import Derived.Below
import Derived.SizedLaws
import Derived.Lay
import Derived.SevenTiedAt
import Derived.Handy
import Derived.Deep.DeepHandedRow
import Derived.Lib.LaidTab
import Derived.Lib.SmallJoins
import Derived.Carry
import Derived.Deep.SlicePairs
import Derived.Test.YtbfgblfhonpgaaaWSized
namespace Go.Proofs.Ytbfgblfhonpgaaa.spanShifts
open Go.ChangeShapes Go.WideShapes Go.ChangeAt Go.RowKit Go.Joins
open Go.ChangeMaps (open_string shut_string)
open Go.Proofs.Ytbfgblfhonpgaaa.X Go.Proofs.YtbfgblfhonpgaaaW.PrintWords
set_option linter.unusedVariables false
set_option linter.unusedSimpArgs false
theorem own : ownKnob Try.prog.godebug = none := by kernel_rfl
theorem laidOut : laidOutB Try.prog = true := by kernel_rfl
theorem open_rows30 {H : Type} {enc : TypeId × Value → H} {W : World} {base : Nat} {sp : Nat → Bool} {held : Bool} {a : Option Addr} {len cap : Nat} {d : DataW H} {p : List MemPlace} (h : DataW.Trod enc Try.prog W base sp held 22 (.slice a len cap) d p) :
    ∃ l : List S30, len = l.length ∧ l.length ≤ cap ∧ Kd.C k30 W a l.length l ∧ (∀ x ∈ l, (Lit.int .i64 x.f0).wf = true ∧ (Lit.int .i64 x.f1).wf = true) ∧
      ∀ (ts : List TypeId) (ds : List (DataW H)) (j : Nat), (DataW.weightsEach Try.prog ts ds).all (· ≤ reachBytes) = true → ts[j]? = some 22 → ds[j]? = some d → l.length * 16 ≤ 140737488351232 := by
  obtain ⟨fuel, hf⟩ := h
  rcases Go.Deep.open_slice_pairs Try.underlying22 Try.underlying30 (by kernel_rfl) rfl rfl (by kernel_rfl) (by kernel_rfl) hf with ⟨hcs, hd⟩ | ⟨x, n, c, m, q, V0, V1, D0, D1, P0, P1, hcs, _, hl, hm, hmm, hx, hi⟩
  · simp [Value.cells] at hcs
    obtain ⟨rfl, rfl, rfl⟩ := hcs
    exact ⟨[], rfl, Nat.le_refl _, ⟨rfl, by simp, fun h => absurd h (by simp)⟩, by simp, fun _ _ _ _ _ _ => by simp⟩
  · simp [Value.cells] at hcs
    obtain ⟨rfl, rfl, rfl⟩ := hcs
    have hlm : len ≤ m := by rw [hmm]; split <;> omega
    have each : ∀ i, i < len → ∃ z : S30, V0 i = .int .i64 z.f0 ∧ V1 i = .int .i64 z.f1 ∧ (Lit.int .i64 z.f0).wf = true ∧ (Lit.int .i64 z.f1).wf = true := by
      intro i hil
      obtain ⟨_, _, g0, g1⟩ := hi i (by omega)
      obtain ⟨u0, e0, _, w0⟩ := DataW.trod_int Try.underlying3 g0
      obtain ⟨u1, e1, _, w1⟩ := DataW.trod_int Try.underlying3 g1
      exact ⟨⟨u0, u1⟩, by simpa using e0, by simpa using e1, w0, w1⟩
    have inh : Inhabited S30 := ⟨z30⟩
    obtain ⟨z, hz⟩ := Go.Deep.choose_lt each
    have hml : maxLen ≤ 9223372036854775807 := by decide
    refine ⟨(List.range len).map z, by simp, by simpa using hl, ⟨rfl, by simp only [List.length_map, List.length_range]; omega, fun _ => ⟨_, rfl, fun j s hj => ⟨[.int .i64 s.f0, .int .i64 s.f1], rfl, k30_mk _ _, fun i u hu => ?_⟩⟩⟩, ?_, ?_⟩
    · obtain ⟨hjl, es⟩ := List.getElem?_eq_some_iff.mp hj
      have hjn : j < len := by simpa using hjl
      rw [List.getElem_map, List.getElem_range] at es
      obtain ⟨c0, c1, _, _⟩ := hi j (by omega)
      obtain ⟨v0, v1, _, _⟩ := hz j hjn
      have hi2 : i < 2 := (List.getElem?_eq_some_iff.mp hu).1
      have : i = 0 ∨ i = 1 := by omega
      rcases this with rfl | rfl
      · have : u = .int .i64 s.f0 := by simpa using hu.symm
        rw [this, ← es, ← v0]
        exact c0
      · have : u = .int .i64 s.f1 := by simpa using hu.symm
        rw [this, ← es, ← v1]
        exact c1
    · intro s hs
      obtain ⟨j, hj, rfl⟩ := List.mem_map.mp hs
      have := hz j (List.mem_range.mp hj)
      exact this.2.2
    · intro ts ds j hsz ht hd
      simp only [Prod.mk.injEq] at hx
      rw [hx.1] at hd
      have y := sized_slice hsz ht hd Try.underlying22
      have hb : Try.prog.bytesOf 30 = 16 := by kernel_rfl
      rw [hb] at y
      simp only [List.length_map, List.length_range] at y ⊢
      have : reachBytes = 140737488351232 := by decide
      omega
set_option maxRecDepth 100000 in
theorem contract (H : Type) (enc : TypeId × Value → H) (W : World) (base : Nat) (args : Array Value) (ds gs : List (DataW H)) (before : List MemPlace)
    (hval : ∀ (j : Nat) t v, Try.f6.params[j]? = some t → args[j]? = some v → Value.okWide Try.prog W .any base t v)
    (hW : DataW.Whole enc Try.prog Try.f6.params.toList Rows.spanShiftsSpec.vars false W args.toList ds gs before)
    (hsz : (DataW.weightsEach Try.prog (Try.f6.params.toList ++ Rows.spanShiftsSpec.plain.varTypes Try.prog) (ds ++ gs)).all (· ≤ reachBytes) = true)
    : Calls Try.prog 6 args W fun e W' => ∃ v, e = .returned v ∧ Rows.spanShiftsSpec.post enc Try.prog Try.f6 false true false false W args v W' := by
  have hW' := hW
  obtain ⟨p, q, hA0, hV, rfl, hfz, hnd⟩ := hW
  have hA : DataW.TrodAll enc Try.prog W 0 (fun _ => true) true Try.f6.params.toList args.toList ds p := hA0
  rw [Try.params6] at hA hval hsz
  obtain ⟨v0, vs0, d0, ds0, p0, q0, hargs, rfl, rfl, h0, r0⟩ := trodAll_cons hA
  obtain ⟨v1, vs1, d1, ds1, p1, q1, rfl, rfl, rfl, h1, r1⟩ := trodAll_cons r0
  obtain ⟨v2, vs2, d2, ds2, p2, q2, rfl, rfl, rfl, h2, r2⟩ := trodAll_cons r1
  obtain ⟨rfl, rfl, rfl⟩ := trodAll_nil r2
  obtain rfl : args = #[v0, v1, v2] := by cases args; simp_all
  obtain ⟨rfl, rfl⟩ := trodVars_none hV
  obtain ⟨a0, len0, cap0, rfl⟩ := okWide_slice Try.underlying22 (hval 0 22 v0 rfl rfl)
  have k0 := h0
  have lt0 : ∀ x ∈ p0, x.block < W.heap.size := by obtain ⟨m, hm⟩ := k0; exact DataW.trod_lt m _ _ _ hm
  obtain ⟨l0, rfl, hc0, hr0, hw0, z0⟩ := open_rows30 h0
  have y0 := z0 _ _ 0 hsz rfl rfl
  obtain ⟨a1, len1, cap1, rfl⟩ := okWide_slice Try.underlying22 (hval 1 22 v1 rfl rfl)
  have k1 := h1
  have lt1 : ∀ x ∈ p1, x.block < W.heap.size := by obtain ⟨m, hm⟩ := k1; exact DataW.trod_lt m _ _ _ hm
  obtain ⟨l1, rfl, hc1, hr1, hw1, z1⟩ := open_rows30 h1
  have y1 := z1 _ _ 1 hsz rfl rfl
  have k2 := h2
  have lt2 : ∀ x ∈ p2, x.block < W.heap.size := by obtain ⟨m, hm⟩ := k2; exact DataW.trod_lt m _ _ _ hm
  obtain ⟨a2, rfl, rfl, rfl, w2⟩ := open_int Try.underlying3 (hval 2 3 v2 rfl rfl) h2
  clear hA0 hval hsz
  obtain ⟨k, hp⟩ := Pure.SpanShifts l0 l1 a2 y0 hw0 y1 hw1 w2
  refine (cohousinglaw04_SpanShifts.calls k _ _ l0 _ _ l1 a2 true W hr0 hc0 hr1 hc1 hp).mono ?_
  rintro e W' ⟨rfl, bel⟩
  exact ⟨_, rfl, _, _, _, [], _, [], hW', trodAll_mk1 (shut_bool Try.underlying4 _), (trodAll_cons_mk (Below.trod laidOut (by kernel_rfl) (of_decide_eq_true (by kernel_rfl)) k0 bel lt0) (trodAll_cons_mk (Below.trod laidOut (by kernel_rfl) (of_decide_eq_true (by kernel_rfl)) k1 bel lt1) (trodAll_cons_mk (Below.trod laidOut (by kernel_rfl) (of_decide_eq_true (by kernel_rfl)) k2 bel lt2) trodAll_mk0))), rfl, bel.frame _, fun h => by cases h⟩
set_option maxRecDepth 100000 in
theorem lifted (os : Os) (started : os.Started) (H : Type) (enc : TypeId × Value → H) :
    ReturnsInHanded {} Try.checked os 6 .any (Rows.spanShiftsSpec.pre6 enc Try.prog Try.f6 Rows.spanShiftsRow.domain false) (Rows.spanShiftsSpec.post enc Try.prog Try.f6 false true false false) := by
  refine returnsInHanded_of_change_sized (C := Try.checked) own started (by kernel_rfl) Try.func6
    (ChangeSpec.witness6 (enc := enc) (C := Try.checked) false ⟨#[], #[.slice none 0 0, .slice none 0 0, .int .i64 0], []⟩ 8 (by kernel_rfl) (by kernel_rfl) (by kernel_rfl) (by kernel_rfl)) ?_
  intro W base args ds gs before hval hW _ hsz _
  exact contract H enc W base args ds gs before hval hW hsz
theorem said : Rows.SpanShiftsSaid :=
  OpenClaim.holds_of_wide 6 Try.f6 rfl rfl rfl rfl rfl rfl rfl ⟨rfl, rfl, rfl, rfl, rfl⟩ rfl rfl rfl rfl rfl (by kernel_rfl) Try.func6 (by kernel_rfl)
    (of_decide_eq_true (by kernel_rfl)) (by unfold Func.isWrapper; first | (rw [if_pos (by decide +kernel)]; kernel_rfl) | (rw [if_neg (by decide +kernel)]; exact ⟨rfl, rfl⟩))
    (fun os started H enc _ => lifted os started H enc)
theorem proved : Rows.SpanShiftsSaid := said
#print axioms proved
end Go.Proofs.Ytbfgblfhonpgaaa.spanShifts
