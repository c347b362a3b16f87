-- Written by a program of mine (wip/tools/xprint.py) over the kit's print.py: printed functions and hand-proved ones side by side.
import Derived.Test.YthcjocojngochaaGreatDoorXx0
import Derived.Test.YthcjocojngochaaGreatDoorXx4
import Derived.Test.YthcjocojngochaaGreatDoorXx8
import Derived.Test.YthcjocojngochaaGreatDoorXx9
import Derived.Test.YthcjocojngochaaGreatDoorXx11
import Derived.Test.YthcjocojngochaaGreatDoorFactsOrd0
import Derived.RangeFuncNested
import Derived.RangeFuncLeaves
import Derived.RangeFuncBound
import Derived.RangeFuncCalls
import Derived.Shelf.Abstract
import Derived.Shelf.RegionOpen
import Derived.OwnWalkIn
import Derived.TacticsInMore
import Derived.LoopNIn
import Derived.LoopIn
import Derived.Outline
import Derived.Deep.DeepFit
import Derived.Lib.SlKept
import Derived.Lib.SlBy
import Derived.Lib.SliceRun
namespace Go.Proofs.YthcjocojngochaaGreatDoor.X
open Go.RowKit Go.Proofs.YthcjocojngochaaGreatDoorW.PrintWords Go.Proofs.YthcjocojngochaaGreatDoorW.PrintLast Go.Proofs.YthcjocojngochaaGreatDoorW.PrintMore
attribute [local go_sem] max2_int min2_int max_two min_two max_three min_three max_four min_four   -- for this text's walks alone
set_option linter.unusedVariables false
set_option linter.unusedSimpArgs false

/-! ### facts_Value: function 12 -/
-- by hand: cohousing/facts.Value
section
def ownB (home : Int) (name : ByteArray) (x : S26) : Bool := x.f0 == home && x.f1.toList == name.toList
/-- A fact's own records, in the order of the register. -/
def ownS (l : List S26) (home : Int) (name : ByteArray) : List S26 := Pure.sortR (l.filter (ownB home name))
/-- What is known, the deciding ones first. -/
def knownR (known : Int) (zs : List S26) : List S26 := (zs.filter fun x => decide (x.f4 ≤ known)).reverse
/-- A record counts on a day. -/
def cov26 (day : Int) (x : S26) : Bool := decide (x.f3.f0 ≤ day) && decide (day < x.f3.f1)
/-- The value on a day, as known on a day. -/
def onF (zs : List S26) (day known : Int) : Int × Bool :=
  match (knownR known zs).find? (cov26 day) with
  | some x => (x.f2, !x.f5)
  | none => (0, false)
def dayB (d : Int) : Bool := decide (0 ≤ d) && decide (d ≤ 36524)
def argB (l : List S26) (home : Int) (name : ByteArray) (ds : List Int) : Bool := validB l && (decide (1 ≤ home) && decide (home ≤ 64)) && nameB name && ds.all dayB
def facts_Value.f (l0 : List S26) (a1 : Int) (a2 : ByteArray) (a3 a4 : Int) : Option (Int × Bool × Int) :=
  if l0.length < 4398046511104 then some (if argB l0 a1 a2 [a3, a4] then ((onF (ownS l0 a1 a2) a3 a4).1, (onF (ownS l0 a1 a2) a3 a4).2, 0) else (0, false, 1)) else none
section
open Go.Shelf
/-- An iterator's contract, told to a loop that may stand over a second loop: the caller's words abide the turn of a record that is laid later. -/
def SeqGo {α : Type} (F : Fence) (n : Nat) (P : Program) (g : Nat) (lb : Array Value) (encs : α → Array Value) (Kp Kr : World → World → Prop) (S Sp : List α → Prop) (N : Nat) (w : World) : Prop :=
  ∀ (l : Nat) (J Jx : List α → World → Prop) (W : World), Below w.heap.size w W → w.heap.size + 2 ≤ W.heap.size → OwnFrom W.heap.size J → OwnFrom W.heap.size Jx →
    (∀ pre x W1, J pre W1 → pre.length < N → YieldAt F (n - 1) P l (encs x) W1 fun e W' =>
      (e = .returned (.bool true) ∧ J (pre ++ [x]) W' ∧ Kp W1 W') ∨ (e = .returned (.bool false) ∧ Jx (pre ++ [x]) W' ∧ Kr W1 W')) →
    J [] W →
    CallsIn F n P g (#[.func (.yield l) #[] #[]] ++ lb) W fun e W' => (∃ v, e = .returned v) ∧ ((∃ xs, S xs ∧ J xs W') ∨ (∃ pre, Sp pre ∧ Jx pre W'))

def goPost {α : Type} (Kp Kr : World → World → Prop) (I : List α → World → Prop) (Ir : List α → World → Prop) (xs : List α) (B : Nat) (W : World) : Exit → Act → World → Prop
  | .normal, _, W' => KeepsFrom B W W' ∧ Kp W W' ∧ I xs W'
  | .ret, _, W' => KeepsFrom B W W' ∧ Kr W W' ∧ Ir xs W'
  | _, _, _ => False

variable {F : Fence} {n : Nat} {P : Program}
theorem wpIn_go {α : Type} {g : Operand} {ps : Array Tmp} {assign body : Code} {Q : Exit → Act → World → Prop} {a : Act} {w : World}
    (hro : F.round = none) (h1 : 1 ≤ n) {gf : Nat} {lb : Array Value} (hg : a.eval g = .func (.func gf) #[] lb) (hFg : F.fn gf) (eg : ∀ args w, (callFunc gf args).run P w = .ok (.enter gf args) w)
    {encs : α → Array Value} {Kp Kr : World → World → Prop} {S Sp : List α → Prop} {N : Nat} (hseq : SeqGo F (n - 1) P gf lb encs Kp Kr S Sp N w)
    (hKt : ∀ {A B C : World}, Kp A B → Kp B C → Kp A C) (hKr : ∀ {A B C : World}, Kp A B → Kr B C → Kr A C) (hKs : ∀ {A B C : World}, Kr A B → Kp B C → Kr A C) (hKb : ∀ (W : World) (o o' : Obj), W.heap[w.heap.size + 1]? = some o → o.isCells = false → Kp W (W.putObj (w.heap.size + 1) o')) (hps : ∀ x, (encs x).size = ps.size)
    (I Ir : List α → World → Prop) (hI : OwnFrom w.heap.size I) (hIr : OwnFrom w.heap.size Ir) (h0 : I [] w) (Ax : α → Act → World → Prop) (hAx : ∀ x a', OwnFrom w.heap.size (fun (_ : Unit) W => Ax x a' W))
    (hassign : ∀ (l : Nat) (pre : List α) (x : α) (W : World) (K : Act → World → Prop), I pre W → w.heap.size + 2 ≤ W.heap.size → (∀ a' W', KeepsFrom w.heap.size W W' → Kp W W' → I pre W' → Ax x a' W' → K a' W') →
      assign.wpIn (F.inRound l) (n - 1 - 1) P (Exit.then K (fun _ _ _ => False)) { tmps := (ps.zip (encs x)).foldl (fun t (p, v) => t.setIfInBounds p v) a.tmps, defers := [] } W)
    (hbody : ∀ (l : Nat) (pre : List α) (x : α) (a' : Act) (W : World), I pre W → w.heap.size + 2 ≤ W.heap.size → Ax x a' W → pre.length < N → body.wpIn (F.inRound l) (n - 1 - 1) P (goPost Kp Kr I Ir (pre ++ [x]) w.heap.size W) a' W)
    (hdone : ∀ (xs : List α) (W : World), S xs → I xs W → W.heap[w.heap.size]? = some (.deferred (some [])) → Q .normal { a with defers := { target := .collected w.heap.size, args := #[] } :: a.defers } W)
    (hstop : ∀ (pre : List α) (W : World), Sp pre → Ir pre W → W.heap[w.heap.size]? = some (.deferred (some [])) → Code.ret.wpIn F n P Q { a with defers := { target := .collected w.heap.size, args := #[] } :: a.defers } W) :
    (Code.rangeFunc g ps assign body).wpIn F n P Q a w := by
  refine wpIn_rangeFunc fun fn hfn => ?_
  rw [hro]
  -- the record of the loop, and the block of the deferred calls
  let D := w.heap.size
  let rec' : LoopState → Option Code → Loop := fun st pe => { state := st, pending := pe, fn, tmps := a.tmps, params := ps, assign, body, defers := D }
  let W1 := (w.alloc (.deferred (some []))).alloc (.loop (rec' .ready none))
  have hL : W1.heap[D + 1]? = some (.loop (rec' .ready none)) := by
    have := World.alloc_heap_new (w.alloc (.deferred (some []))) (.loop (rec' .ready none))
    rwa [World.size_alloc] at this
  have hD : W1.heap[D]? = some (.deferred (some [])) := (Below.heap_alloc _ _ _ (by simp [D])).trans (World.alloc_heap_new w _)
  have hS1 : W1.heap.size = D + 2 := by simp [W1, D]
  have hI1 : I [] W1 := hI.alloc _ (hI.alloc _ h0)
  have hb1 : Below w.heap.size w W1 := ((Below.refl _ w).alloc (Nat.le_refl _) _).alloc (by simp) _
  have hszz : w.heap.size + 2 ≤ W1.heap.size := by omega
  refine ⟨D + 1, [{ target := .collected D, args := #[] }], W1, { target := .fn (.func gf) lb, args := #[.func (.yield (D + 1)) #[] #[]] }, W1, gf,
    #[.func (.yield (D + 1)) #[] #[]] ++ lb, W1, run_enterLoop_outer _ _ _ _ _, ?_, ?_, ?_, fun _ => h1, ?_⟩
  · simp only [resolve, hg]
    simp [go_sem]
  · intro f' hf'
    simp [Target.leads] at hf'
    subst hf'
    exact hFg
  · simp [invoke, go_sem, eg]
  have abide : ∀ {o : Obj} (k : Nat) (A B : World) (row : Option Nat), k < W1.heap.size → A.heap[k]? = some o → A.grownBy B row → (∀ r, row = some r → W1.heap.size ≤ r ∧ ∃ o : Obj, A.heap[r]? = some o ∧ o.isCells = false) → B.heap[k]? = some o := by
    intro o k A B row hk ho hg' hr
    refine (hg'.block k (Array.getElem?_eq_some_iff.1 ho).1 (fun e => ?_)).trans ho
    have := (hr k e.symm).1
    omega
  have older : ∀ {A : World} {row : Option Nat}, (∀ r, row = some r → W1.heap.size ≤ r ∧ ∃ o : Obj, A.heap[r]? = some o ∧ o.isCells = false) → ∀ r, row = some r → D ≤ r ∧ ∃ o : Obj, A.heap[r]? = some o ∧ o.isCells = false :=
    fun hr r e => ⟨by have := (hr r e).1; omega, (hr r e).2⟩
  refine (hseq (D + 1) (fun pre W => I pre W ∧ W1.heap.size ≤ W.heap.size ∧ W.heap[D + 1]? = some (.loop (rec' .ready none)) ∧ W.heap[D]? = some (.deferred (some [])))
    (fun pre W => Ir pre W ∧ W.heap[D + 1]? = some (.loop (rec' .done (some .ret))) ∧ W.heap[D]? = some (.deferred (some []))) W1 hb1 hszz
    (fun s A B row hs hg' hr => ⟨hI s A B row hs.1 hg' (older hr), Nat.le_trans hs.2.1 hg'.size, abide _ A B row (by omega) hs.2.2.1 hg' hr, abide _ A B row (by omega) hs.2.2.2 hg' hr⟩)
    (fun s A B row hs hg' hr => ⟨hIr s A B row hs.1 hg' (older hr), abide _ A B row (by omega) hs.2.1 hg' hr, abide _ A B row (by omega) hs.2.2 hg' hr⟩)
    ?round ⟨hI1, Nat.le_refl _, hL, hD⟩).mono ?behind
  case round =>
    rintro pre x W ⟨hi, hsz, hl, hd⟩ hlen
    have hy : (Instr.yield (D + 1) (encs x)).run P W = .ok (.round (D + 1) fn ((ps.zip (encs x)).foldl (fun t (p, v) => t.setIfInBounds p v) a.tmps) assign body) W := run_yield (P := P) (args := encs x) hl (hps x)
    refine ⟨fn, _, assign, body, hy, roundIn_of_wpIn hfn (hassign _ pre x W _ hi (by omega) ?_)⟩
    intro a' Wa hka hkpa hia hax
    have hla := hka.same _ _ (by omega) hl rfl
    have hda := hka.same _ _ (Nat.le_refl _) hd rfl
    have hlt : D + 1 < Wa.heap.size := (Array.getElem?_eq_some_iff.1 hla).1
    refine ⟨_, run_beginRound hla rfl, ?_⟩
    have hlb : (Wa.putObj (D + 1) (.loop { rec' .ready none with state := .busy })).heap[D + 1]? = some (.loop { rec' .ready none with state := .busy }) := World.putObj_heap_same hlt
    have hdb : (Wa.putObj (D + 1) (.loop { rec' .ready none with state := .busy })).heap[D]? = some (.deferred (some [])) := (World.putObj_heap_other (by omega)).trans hda
    have hkb : Kp Wa (Wa.putObj (D + 1) (.loop { rec' .ready none with state := .busy })) := hKb _ _ _ hla rfl
    refine wpIn_mono (hbody _ pre x a' _ (hI.putObj _ hia (by omega) hla rfl) (by have := hka.size; simp; omega) ((hAx x a').putObj (s := ()) _ hax (by omega) hla rfl) hlen) ?_
    have fin : ∀ (jump : Option Code) (W3 : World), KeepsFrom D (Wa.putObj (D + 1) (.loop { rec' .ready none with state := .busy })) W3 →
        (Instr.endRound (D + 1) jump).run P W3 = .ok (.bool jump.isNone) (W3.putObj (D + 1) (.loop (rec' (if jump.isNone then .ready else .done) jump))) ∧
        W3.heap[D + 1]? = some (.loop { rec' .ready none with state := .busy }) ∧
        (W3.putObj (D + 1) (.loop (rec' (if jump.isNone then .ready else .done) jump))).heap[D + 1]? = some (.loop (rec' (if jump.isNone then .ready else .done) jump)) ∧
        (W3.putObj (D + 1) (.loop (rec' (if jump.isNone then .ready else .done) jump))).heap[D]? = some (.deferred (some [])) := by
      intro jump W3 hk3
      have hl3 := hk3.same _ _ (by omega) hlb rfl
      have hr := run_endRound (P := P) jump hl3
      exact ⟨hr, hl3, World.putObj_heap_same (Array.getElem?_eq_some_iff.1 hl3).1, (World.putObj_heap_other (by omega)).trans (hk3.same _ _ (Nat.le_refl _) hdb rfl)⟩
    rintro e a3 W3 hp
    cases e with
    | normal =>
      obtain ⟨hk3, hkp3, hi3⟩ := hp
      obtain ⟨hr, hl3, hl4, hd4⟩ := fin none W3 hk3
      refine ⟨_, _, hr, .inl ⟨rfl, ⟨hI.putObj _ hi3 (by omega) hl3 rfl, ?_, hl4, hd4⟩, hKt hkpa (hKt (hKt hkb hkp3) (hKb _ _ _ hl3 rfl))⟩⟩
      have a1 := hka.size
      have a2 := hk3.size
      simp at a2 ⊢
      omega
    | ret =>
      obtain ⟨hk3, hkp3, hi3⟩ := hp
      obtain ⟨hr, hl3, hl4, hd4⟩ := fin (some .ret) W3 hk3
      exact ⟨_, _, hr, .inr ⟨rfl, ⟨hIr.putObj _ hi3 (by omega) hl3 rfl, hl4, hd4⟩, hKr hkpa (hKs (hKr hkb hkp3) (hKb _ _ _ hl3 rfl))⟩⟩
    | exit id => exact hp.elim
    | goto t => exact hp.elim
    | panic ch => exact hp.elim
    | outgrown => exact hp.elim
  case behind =>
    rintro e W2 ⟨⟨v, rfl⟩, (⟨xs, hS, hi, _, hl, hd⟩ | ⟨pre, hSp, hi, hl, hd⟩)⟩
    · exact ⟨none, _, run_endLoop (P := P) hl (by simp [rec']), hdone xs _ hS (hI.putObj _ hi (by omega) hl rfl) ((World.putObj_heap_other (by omega)).trans hd)⟩
    · exact ⟨some .ret, _, run_endLoop (P := P) hl (by simp [rec']), hstop pre _ hSp (hIr.putObj _ hi (by omega) hl rfl) ((World.putObj_heap_other (by omega)).trans hd)⟩
end
section
open Go.Shelf
attribute [local go_sem] Oper.semAt_some
theorem old_cellI {w w' : World} (a : Addr) (h : w'.heap[a.block]? = w.heap[a.block]?) : w'.cell? a = w.cell? a := by
  unfold World.cell?
  rw [h]
theorem cell_alFa {W : World} {a : Addr} {v : Value} (o : Obj) (h : W.cell? a = some v) : (W.alloc o).cell? a = some v :=
  (old_cellI a (Below.heap_alloc W o _ (World.block_lt_of_cell? W _ h))).trans h
/-- The blocks that Backward reads lie as they lay. -/
def KB (Bs b : Nat) (W W' : World) : Prop := W'.heap[Bs]? = W.heap[Bs]? ∧ W'.heap[b]? = W.heap[b]?
theorem KB.trans {Bs b : Nat} {X Y Z : World} (h : KB Bs b X Y) (k : KB Bs b Y Z) : KB Bs b X Z := ⟨k.1.trans h.1, k.2.trans h.2⟩
abbrev encB (x : Int × S26) : Array Value := #[.int .i64 x.1, .agg (vals26 x.2)]
theorem at_prev (zs : List S26) (k : Nat) (hk : 0 < k) (hkl : k ≤ zs.length) (pre : List (Int × S26)) (h : pre.map (·.2) = (zs.drop k).reverse) :
    (pre ++ [(((k - 1 : Nat) : Int), rd_T26 zs ((k - 1 : Nat) : Int))]).map (·.2) = (zs.drop (k - 1)).reverse := by
  have hlt : k - 1 < zs.length := by omega
  have e : rd_T26 zs ((k - 1 : Nat) : Int) = zs[k - 1] := by simp [rd_T26, List.getD_eq_getElem?_getD, List.getElem?_eq_getElem hlt]
  rw [e, List.drop_eq_getElem_cons hlt, show k - 1 + 1 = k by omega, List.map_append, h]
  simp
theorem add_blockFa (ad : Addr) (k : Nat) : (ad.add k).block = ad.block := by
  unfold Addr.add
  (repeat' split) <;> rfl
theorem old_add {w w' : World} {ad : Addr} (h : w'.heap[ad.block]? = w.heap[ad.block]?) (k j : Nat) : w'.cell? (ad.add k) = w.cell? (ad.add k) ∧ w'.cell? ⟨(ad.add k).block, (ad.add k).off + j, none⟩ = w.cell? ⟨(ad.add k).block, (ad.add k).off + j, none⟩ :=
  ⟨old_cellI _ (by rw [add_blockFa]; exact h), old_cellI _ (by show w'.heap[(ad.add k).block]? = w.heap[(ad.add k).block]?; rw [add_blockFa]; exact h)⟩
theorem intOfI (z : Int) : intOf (Value.int .i64 z) = z := rfl
theorem size_encB (x : Int × S26) : (encB x).size = 2 := rfl
set_option maxRecDepth 100000 in
set_option maxHeartbeats 2000000 in
theorem back126 (n : Nat) (hn : 1 ≤ n) (l Bs b cap : Nat) (A : Option Addr) (zs : List S26) (hA : 0 < zs.length → ∀ ad, A = some ad → ad.block = b) (hlen : zs.length < 4398046511104) (J Jx : List (Int × S26) → World → Prop)
    (hY : ∀ pre x W, J pre W → pre.length < zs.length → YieldAt Fence.wide (n - 1) Tryz.prog l (encB x) W fun e W' =>
      (e = .returned (.bool true) ∧ J (pre ++ [x]) W' ∧ KB Bs b W W') ∨ (e = .returned (.bool false) ∧ Jx (pre ++ [x]) W' ∧ True))
    (W : World) (hBs : W.cell? ⟨Bs, 0, none⟩ = some (.slice A zs.length cap)) (hrow : Kd.C k26 W A zs.length zs) (h0 : J [] W) :
    CallsIn Fence.wide n Tryz.prog 126 #[.func (.yield l) #[] #[], .pointer (some ⟨Bs, 0, none⟩)] W fun e W' => (∃ v, e = .returned v) ∧
      ((∃ ys, ys.map (·.2) = zs.reverse ∧ J ys W') ∨ (∃ pre, pre.map (·.2) <+: zs.reverse ∧ Jx pre W')) := by
  refine callsIn_of_wp Tryz.func126 rfl trivial ?_ rfl
  simp only [Tryz.ntmps126, List.size_toArray, List.length_cons, List.length_nil, Nat.reduceAdd, Nat.reduceSub, Array.replicate_succ, Array.replicate_zero, List.push_toArray, List.append_toArray, List.nil_append, List.cons_append]
  gi_wp2
  gi_loopw [3] (fun i wr => ∃ (k : Nat) (pre : List (Int × S26)), k ≤ zs.length ∧ i = .int .i64 ((k : Int) - 1) ∧ pre.map (·.2) = (zs.drop k).reverse ∧ J pre wr ∧ KB Bs b W wr)
    (fun i _ => (intOf i + 1).toNat)
  case atStart => exact ⟨zs.length, [], Nat.le_refl _, rfl, by simp, h0, rfl, rfl⟩
  case round =>
    obtain ⟨k, pre, hk, rfl, hpre, hJs, hB⟩ := hrel
    have hBs2 : wr.cell? ⟨Bs, 0, none⟩ = some (.slice A zs.length cap) := (old_cellI _ hB.1).trans hBs
    by_cases hlt : 0 < k
    · obtain ⟨ad, ea, hx0, hx1, hx2, hx3, hx4, hx5, hx6⟩ := at_T26 hrow (((k - 1 : Nat) : Int)) (by omega) (by omega)
      subst ea
      have hAb := hA (by omega) ad rfl
      have hB2 : wr.heap[ad.block]? = W.heap[ad.block]? := by rw [hAb]; exact hB.2
      replace hx0 := (old_add hB2 _ 0).1.trans hx0
      replace hx1 := (old_add hB2 _ 1).2.trans hx1
      replace hx2 := (old_add hB2 _ 2).2.trans hx2
      replace hx3 := (old_add hB2 _ 3).2.trans hx3
      replace hx4 := (old_add hB2 _ 4).2.trans hx4
      replace hx5 := (old_add hB2 _ 5).2.trans hx5
      replace hx6 := (old_add hB2 _ 6).2.trans hx6
      have hnext := at_prev zs k hlt hk pre hpre
      have hplen : pre.length < zs.length := by
        have := congrArg List.length hpre
        simp at this
        omega
      obtain ⟨fn, tmps, assign, body, hy, hR⟩ := hY pre (((k - 1 : Nat) : Int), rd_T26 zs ((k - 1 : Nat) : Int)) wr hJs hplen
      obtain ⟨k, rfl⟩ : ∃ k', k = k' + 1 := ⟨k - 1, by omega⟩
      simp only [Nat.add_sub_cancel, Int.toNat_natCast] at *
      generalize rd_T26 zs (k : Int) = x at *
      dsimp only [encB, vals26] at hy
      have hq0 : (0 : Int) ≤ (k : Int) := by omega
      have hq1 : (k : Int) < (zs.length : Int) := by omega
      have ek : ((k + 1 : Nat) : Int) - 1 = (k : Int) := by omega
      rw [ek]
      gi_wp2
      refine hR.mono ?_
      rintro e W3 (⟨rfl, hJ3, hk3⟩ | ⟨rfl, hJx3, _⟩)
      · gi_wp2
        go_roundw
        case rel => exact ⟨k, _, by omega, rfl, hnext, hJ3, hB.trans hk3⟩
        case measure => simp [intOf]
      · gi_wp2
        refine bodyPost_ret (results_none rfl _ _ _) rfl ?_
        exact ⟨⟨_, rfl⟩, .inr ⟨_, by rw [hnext]; exact List.reverse_prefix.mpr (List.drop_suffix k zs), hJx3⟩⟩
    · obtain rfl : k = 0 := by omega
      have hq0 : ¬ (0 : Int) ≤ ((0 : Nat) : Int) - 1 := by omega
      gi_wp2
      go_end0
      exact ⟨⟨_, rfl⟩, .inl ⟨pre, by simpa using hpre, hJs⟩⟩
set_option maxHeartbeats 1000000 in
theorem back97 (n : Nat) (a : Option Addr) (len cap : Nat) (w : World) :
    CallsIn Fence.wide n Tryz.prog 97 #[.slice a len cap] w fun e w' => e = .returned (.func (.func 126) #[] #[.pointer (some ⟨w.heap.size, 0, none⟩)]) ∧ w' = w.alloc (.cells #[.slice a len cap] 22) := by
  refine callsIn_of_wp Tryz.func97 rfl trivial ?_ rfl
  simp only [Tryz.ntmps97, List.size_toArray, List.length_cons, List.length_nil, Nat.reduceAdd, Nat.reduceSub, Array.replicate_succ, Array.replicate_zero, List.push_toArray, List.append_toArray, List.nil_append, List.cons_append]
  gi_wp2
  go_ret
  exact ⟨rfl, rfl⟩
theorem round_any {P : Program} {m m' l l2 : Nat} {f : FuncId} {t : Array Value} {a b : Code} {W : World} {R : Ending → World → Prop} (h : RoundIn Fence.wide m P l f t a b W R) : RoundIn (Fence.wide.inRound l2) m' P l f t a b W R :=
  ⟨trivial, fun c cs _ => h.2 c cs (room_wide _)⟩
set_option maxRecDepth 100000 in
set_option maxHeartbeats 4000000 in
theorem latest96 (n : Nat) (hn : 5 ≤ n) (D1 l Bf Bk b cap : Nat) (A : Option Addr) (zs : List S26) (hA : 0 < zs.length → ∀ ad, A = some ad → ad.block = b) (known : Int) (hlen : zs.length < 4398046511104) (J Jx : List S26 → World → Prop) (W : World) (hJ : OwnFrom W.heap.size J) (hJx : OwnFrom W.heap.size Jx)
    (hY : ∀ pre x W1, J pre W1 → pre.length < zs.length → YieldAt Fence.wide (n - 1) Tryz.prog l #[.agg (vals26 x)] W1 fun e W' =>
      (e = .returned (.bool true) ∧ J (pre ++ [x]) W' ∧ W1.grownBy W' (some D1)) ∨ (e = .returned (.bool false) ∧ Jx (pre ++ [x]) W' ∧ KeepsFrom (D1 + 1) W1 W'))
    (hD : D1 < W.heap.size) (hf : W.cell? ⟨Bf, 0, none⟩ = some (.slice A zs.length cap)) (hk : W.cell? ⟨Bk, 0, none⟩ = some (.int .i64 known)) (nf : Bf ≠ D1) (nk : Bk ≠ D1) (na : b ≠ D1)
    (ha : b < W.heap.size) (hrow : Kd.C k26 W A zs.length zs) (h0 : J [] W) :
    CallsIn Fence.wide n Tryz.prog 96 #[.func (.yield l) #[] #[], .pointer (some ⟨Bf, 0, none⟩), .pointer (some ⟨Bk, 0, none⟩)] W fun e W' => (∃ v, e = .returned v) ∧
      ((∃ ys, ys = knownR known zs ∧ J ys W') ∨ (∃ pre, pre <+: knownR known zs ∧ Jx pre W')) := by
  have h1 : 1 ≤ n := by omega
  have lf := World.block_lt_of_cell? W _ hf
  have hf1 : ∀ o, (W.alloc o).cell? ⟨Bf, 0, none⟩ = some (.slice A zs.length cap) := fun o => cell_alFa o hf
  refine callsIn_of_wp_marks Tryz.func96 rfl trivial ?_ rfl
  simp only [Tryz.ntmps96, List.size_toArray, List.length_cons, List.length_nil, Nat.reduceAdd, Nat.reduceSub, Array.replicate_succ, Array.replicate_zero, List.push_toArray, List.append_toArray, List.nil_append, List.cons_append]
  gi_wp2_with (refine ⟨trivial, ?_⟩; gi_at_call 97; refine (back97 _ _ _ _ _).mono ?_; rintro e w' ⟨rfl, rfl⟩)
  obtain ⟨W2, hW2⟩ : ∃ w_ : World, w_ = (W.alloc (Obj.cells #[Value.func (Fn.yield l) #[] #[]] 53)).alloc (Obj.cells #[Value.slice A zs.length cap] 22) := ⟨_, rfl⟩
  have hsz : W2.heap.size = W.heap.size + 2 := by rw [hW2]; simp
  have hbs : W2.cell? ⟨W.heap.size + 1, 0, none⟩ = some (.slice A zs.length cap) := by rw [hW2]; simp
  have hy2 : W2.cell? ⟨W.heap.size, 0, none⟩ = some (.func (.yield l) #[] #[]) := by rw [hW2]; simp
  have hk2 : W2.cell? ⟨Bk, 0, none⟩ = some (.int .i64 known) := by rw [hW2]; exact cell_alFa _ (cell_alFa _ hk)
  have hB2 : Below W.heap.size W W2 := by rw [hW2]; exact ((Below.refl _ W).alloc (Nat.le_refl _) _).alloc (by simp) _
  have hJ2 : J [] W2 := by rw [hW2]; exact hJ.alloc _ (hJ.alloc _ h0)
  have hrow2 : Kd.C k26 W2 A zs.length zs := Kd.C_below hrow hB2
  have lk := World.block_lt_of_cell? W2 _ hk2
  have ly := World.block_lt_of_cell? W2 _ hy2
  rw [← hW2]
  clear hW2 hf1
  have hseq : SeqGo Fence.wide (n - 1) Tryz.prog 126 #[.pointer (some ⟨W.heap.size + 1, 0, none⟩)] encB (KB (W.heap.size + 1) b) (fun _ _ => True)
      (fun xs => xs.map (·.2) = zs.reverse) (fun pre => pre.map (·.2) <+: zs.reverse) zs.length W2 := by
    intro l' J' Jx' W' hW' _ _ _ hY' h0'
    exact back126 (n - 1) (by omega) l' (W.heap.size + 1) b cap A zs hA hlen J' Jx' hY' W' ((hW'.cell (show W.heap.size + 1 < W2.heap.size by omega)).trans hbs) (Kd.C_below hrow2 hW') h0'
  refine wpIn_go (F := Fence.wide) rfl h1 (gf := 126) (lb := #[.pointer (some ⟨W.heap.size + 1, 0, none⟩)]) rfl trivial (enters_of Tryz.func126 (by kernel_rfl) rfl) hseq
    (fun h k => h.trans k) (fun _ _ => trivial) (fun _ _ => trivial)
    (fun V o o' ho hc => ⟨World.putObj_heap_other (by omega), World.putObj_heap_other (by omega)⟩) (fun _ => rfl)
    (fun pre V => J ((pre.map (·.2)).filter fun x => decide (x.f4 ≤ known)) V ∧ W2.heap.size ≤ V.heap.size ∧ ∀ k, k < W2.heap.size → k ≠ D1 → V.heap[k]? = W2.heap[k]?)
    (fun pre V => Jx ((pre.map (·.2)).filter fun x => decide (x.f4 ≤ known)) V)
    ?hI ?hIr ⟨hJ2, Nat.le_refl _, fun _ _ _ => rfl⟩
    (fun x a' V => ∃ Bx, W2.heap.size ≤ Bx ∧ (V.cell? ⟨Bx, 0, none⟩ = some (.int .i64 x.2.f0) ∧ V.cell? ⟨Bx, 1, none⟩ = some (.string x.2.f1) ∧ V.cell? ⟨Bx, 2, none⟩ = some (.int .i64 x.2.f2) ∧ V.cell? ⟨Bx, 3, none⟩ = some (.int .i64 x.2.f3.f0) ∧ V.cell? ⟨Bx, 4, none⟩ = some (.int .i64 x.2.f3.f1) ∧ V.cell? ⟨Bx, 5, none⟩ = some (.int .i64 x.2.f4) ∧ V.cell? ⟨Bx, 6, none⟩ = some (.bool x.2.f5)) ∧
      a' = { tmps := #[Value.func (Fn.yield l) #[] #[], Value.pointer (some { block := Bf, off := 0 }), Value.pointer (some { block := Bk, off := 0 }), Value.pointer (some { block := W.heap.size, off := 0 }), undef, .pointer (some ⟨Bx, 0, none⟩), Value.pointer (some { block := Bf, off := 0 }), Value.slice A zs.length cap, Value.func (Fn.func 126) #[] #[Value.pointer (some { block := W.heap.size + 1, off := 0 })], .int .i64 x.1, .agg (vals26 x.2), undef, undef, undef, undef, undef, undef, undef, undef, undef, undef], defers := [] })
    ?hAx ?assign ?body ?done ?stop
  case hI =>
    intro s V V' row hs hg hr
    refine ⟨hJ _ V V' row hs.1 hg (fun r e => ⟨by have := (hr r e).1; omega, (hr r e).2⟩), Nat.le_trans hs.2.1 hg.size, fun k hk hne => ?_⟩
    refine (hg.block k (by omega) (fun e => ?_)).trans (hs.2.2 k hk hne)
    have := (hr k e.symm).1
    omega
  case hIr =>
    intro s V V' row hs hg hr
    exact hJx _ V V' row hs hg (fun r e => ⟨by have := (hr r e).1; omega, (hr r e).2⟩)
  case hAx =>
    intro x a' s V V' row hs hg hr
    obtain ⟨Bx, h1, ⟨c0, c1, c2, c3, c4, c5, c6⟩, h3⟩ := hs
    have hr' : ∀ r, row = some r → ∃ o : Obj, V.heap[r]? = some o ∧ o.isCells = false := fun r e => (hr r e).2
    exact ⟨Bx, h1, ⟨cell_kept c0 hg hr', cell_kept c1 hg hr', cell_kept c2 hg hr', cell_kept c3 hg hr', cell_kept c4 hg hr', cell_kept c5 hg hr', cell_kept c6 hg hr'⟩, h3⟩
  case assign =>
    rintro l' pre ⟨i, x⟩ V K ⟨hi, hs, hsame⟩ hle hK
    gi_wp2
    refine hK _ _ ((KeepsOthers.alloc _ _).from _) ⟨Below.heap_alloc V _ _ (by omega), Below.heap_alloc V _ _ (by omega)⟩ ⟨hJ.alloc _ hi, by simp; omega, fun k hk hne => (Below.heap_alloc V _ _ (by omega)).trans (hsame k hk hne)⟩ ⟨V.heap.size, by omega, ⟨by simp, by simp, by simp, by simp, by simp, by simp, by simp⟩, rfl⟩
  case body =>
    rintro l' pre ⟨i, x⟩ a' V ⟨hi, hs, hsame⟩ hle ⟨Bx, hBx, ⟨c0, c1, c2, c3, c4, c5, c6⟩, rfl⟩ hplen
    dsimp only at c0 c1 c2 c3 c4 c5 c6
    have hyV : V.cell? ⟨W.heap.size, 0, none⟩ = some (.func (.yield l) #[] #[]) := (old_cellI ⟨W.heap.size, 0, none⟩ (hsame W.heap.size ly (by omega))).trans hy2
    have hkV : V.cell? ⟨Bk, 0, none⟩ = some (.int .i64 known) := (old_cellI ⟨Bk, 0, none⟩ (hsame Bk lk nk)).trans hk2
    by_cases hkn : x.f4 ≤ known
    · have hfl : ((pre ++ [(i, x)]).map (·.2)).filter (fun x => decide (x.f4 ≤ known)) = (pre.map (·.2)).filter (fun x => decide (x.f4 ≤ known)) ++ [x] := by simp [hkn]
      obtain ⟨fn, tmps, asg, bdy, hyy, hR⟩ := hY _ x V hi (by have := List.length_filter_le (fun x : S26 => decide (x.f4 ≤ known)) (pre.map (·.2)); rw [List.length_map] at this; omega)
      dsimp only [vals26] at hyy
      gi_wp2
      refine ⟨fun h => (by cases h), (round_any hR).mono ?_⟩
      rintro e W3 (⟨rfl, hJ3, hg⟩ | ⟨rfl, hJx3, hkf⟩)
      · gi_wp2
        refine ⟨KeepsFrom.of_grownBy hg (fun j e => by cases e; omega), ⟨hg.block _ (by omega) (by intro e; injection e; omega), hg.block _ (by omega) (by intro e; injection e; omega)⟩, by rw [hfl]; exact hJ3, Nat.le_trans hs hg.size, fun k hk hne => (hg.block k (by omega) (by intro e; injection e; omega)).trans (hsame k hk hne)⟩
      · gi_wp2
        exact ⟨⟨hkf.size, fun k o hB => hkf.same k o (by omega)⟩, trivial, by dsimp only; rw [hfl]; exact hJx3⟩
    · have hfl : ((pre ++ [(i, x)]).map (·.2)).filter (fun x => decide (x.f4 ≤ known)) = (pre.map (·.2)).filter (fun x => decide (x.f4 ≤ known)) := by simp [hkn]
      gi_wp2
      refine ⟨fun _ h => (by cases h), ?_⟩
      gi_wp2
      exact ⟨KeepsFrom.refl _ _, ⟨rfl, rfl⟩, by rw [hfl]; exact hi, hs, hsame⟩
  case done =>
    rintro xs V hS ⟨hi, _, _⟩ hK
    rw [hsz] at hK
    gi_wp2
    refine ⟨by simp, .inl ⟨_, _, rfl, run_takeDeferred hK, ?_⟩⟩
    refine ⟨_, results_none rfl _ _ _, ⟨_, rfl⟩, .inl ?_⟩
    rw [hS] at hi
    have e : (zs.reverse.filter fun x => decide (x.f4 ≤ known)) = knownR known zs := by unfold knownR; rw [List.filter_reverse]
    rw [e] at hi
    exact hJ.putObj _ hi (by omega) hK rfl
  case stop =>
    rintro pre V hS hi hK
    rw [hsz] at hK
    gi_wp2
    refine ⟨by simp, .inl ⟨_, _, rfl, run_takeDeferred hK, ?_⟩⟩
    refine ⟨_, results_none rfl _ _ _, ⟨_, rfl⟩, .inr ⟨_, ?_, hJx.putObj _ hi (by omega) hK rfl⟩⟩
    obtain ⟨r, hr⟩ := hS
    refine ⟨r.filter (fun x => decide (x.f4 ≤ known)), ?_⟩
    rw [← List.filter_append, hr, List.filter_reverse]
    rfl
set_option maxHeartbeats 1000000 in
theorem latest71 (n : Nat) (a : Option Addr) (len cap : Nat) (known : Int) (w : World) :
    CallsIn Fence.wide n Tryz.prog 71 #[.agg #[.slice a len cap], .int .i64 known] w fun e w' => e = .returned (.func (.func 96) #[] #[.pointer (some ⟨w.heap.size, 0, none⟩), .pointer (some ⟨w.heap.size + 1, 0, none⟩)]) ∧ w' = (w.alloc (.cells #[.slice a len cap] 55)).alloc (.cells #[.int .i64 known] 3) := by
  refine callsIn_of_wp Tryz.func71 rfl trivial ?_ rfl
  simp only [Tryz.ntmps71, List.size_toArray, List.length_cons, List.length_nil, Nat.reduceAdd, Nat.reduceSub, Array.replicate_succ, Array.replicate_zero, List.push_toArray, List.append_toArray, List.nil_append, List.cons_append]
  gi_wp2
  go_ret
  exact ⟨rfl, rfl⟩
theorem find_stop (p : S26 → Bool) (pre : List S26) (x : S26) (l : List S26) (h : (pre ++ [x]) <+: l) (hp : ∀ y ∈ pre, p y = false) (hx : p x = true) : l.find? p = some x := by
  obtain ⟨r, rfl⟩ := h
  rw [List.append_assoc, List.find?_append, List.find?_eq_none.mpr (fun y hy => by rw [hp y hy]; simp)]
  simp [hx]
theorem cell_put {V : World} {b l : Nat} {o : Obj} {v : Value} (h : V.cell? ⟨b, 0, none⟩ = some v) (hne : b ≠ l) : (V.putObj l o).cell? ⟨b, 0, none⟩ = some v :=
  (old_cellI ⟨b, 0, none⟩ (World.putObj_heap_other hne)).trans h
theorem kf_set {B : Nat} {V X : World} (h : KeepsFrom B V X) (a : Addr) (v : Value) : KeepsFrom B V (X.setCell a v) := h.trans ((KeepsOthers.setCell _ _ _).from _)
theorem kf_drew {B : Nat} {V X : World} (h : KeepsFrom B V X) : KeepsFrom B V X.drew := ⟨h.size, h.same⟩
theorem bl_set {B : Nat} {V X : World} (h : Below B V X) (b o : Nat) (v : Value) (hb : B ≤ b) : Below B V (X.setCell ⟨b, o, none⟩ v) := h.setCell (p := ⟨b, o, none⟩) hb v
set_option maxRecDepth 100000 in
set_option maxHeartbeats 4000000 in
theorem on36 (A : Option Addr) (c : Nat) (zs : List S26) (day known : Int) (w : World) (hlen : zs.length < 4398046511104) (hrow : Kd.C k26 w A zs.length zs) :
    Calls Tryz.prog 36 #[.agg #[.slice A zs.length c], .int .i64 day, .int .i64 known] w fun e w' => e = .returned (.tuple #[.int .i64 (onF zs day known).1, .bool (onF zs day known).2]) ∧ Below w.heap.size w w' := by
  refine (callsIn_wide (n := 10)).1 ?_
  refine callsIn_of_wp_marks Tryz.func36 rfl trivial ?_ rfl
  simp only [Tryz.ntmps36, List.size_toArray, List.length_cons, List.length_nil, Nat.reduceAdd, Nat.reduceSub, Array.replicate_succ, Array.replicate_zero, List.push_toArray, List.append_toArray, List.nil_append, List.cons_append]
  gi_wp2_with (refine ⟨trivial, ?_⟩; gi_at_call 71; refine (latest71 _ _ _ _ _ _).mono ?_; rintro e w' ⟨rfl, rfl⟩)
  obtain ⟨W2, hW2⟩ : ∃ w_ : World, w_ = ((((((w.alloc (Obj.cells #[Value.slice A zs.length c] 55)).alloc (Obj.cells #[Value.int IntKind.i64 day] 3)).alloc (Obj.cells #[Value.int IntKind.i64 0] 3)).alloc (Obj.cells #[Value.bool false] 4)).alloc (Obj.cells #[Value.slice A zs.length c] 55)).alloc (Obj.cells #[Value.int IntKind.i64 known] 3)) := ⟨_, rfl⟩
  have hsz : w.heap.size + 6 = W2.heap.size := by rw [hW2]; simp
  have hd2 : W2.cell? ⟨w.heap.size + 1, 0, none⟩ = some (.int .i64 day) := by rw [hW2]; go_simp
  have hv2 : W2.cell? ⟨w.heap.size + 1 + 1, 0, none⟩ = some (.int .i64 0) := by rw [hW2]; go_simp
  have hb2 : W2.cell? ⟨w.heap.size + 1 + 1 + 1, 0, none⟩ = some (.bool false) := by rw [hW2]; go_simp
  have fv2 : W2.frozen? ⟨w.heap.size + 1 + 1, 0, none⟩ = false := by rw [hW2]; go_simp
  have fb2 : W2.frozen? ⟨w.heap.size + 1 + 1 + 1, 0, none⟩ = false := by rw [hW2]; go_simp
  have hf2 : W2.cell? ⟨w.heap.size + 1 + 1 + 1 + 1, 0, none⟩ = some (.slice A zs.length c) := by rw [hW2]; go_simp
  have hk2 : W2.cell? ⟨w.heap.size + 1 + 1 + 1 + 1 + 1, 0, none⟩ = some (.int .i64 known) := by rw [hW2]; go_simp
  have hB2 : Below w.heap.size w W2 := by rw [hW2]; with_reducible repeat first | exact Below.refl _ _ | apply below_alloc
  have hrow2 : Kd.C k26 W2 A zs.length zs := Kd.C_below hrow hB2
  obtain ⟨b, hA, hb⟩ : ∃ b, (0 < zs.length → ∀ ad, A = some ad → ad.block = b) ∧ b < w.heap.size + 1 := by
    by_cases h0 : 0 < zs.length
    · obtain ⟨ad, ea, hx0, _⟩ := at_T26 hrow 0 (by omega) (by omega)
      have := World.block_lt_of_cell? w _ hx0
      rw [add_blockFa] at this
      exact ⟨ad.block, fun _ ad' e => by rw [ea] at e; cases e; rfl, by omega⟩
    · exact ⟨w.heap.size, fun h => absurd h h0, by omega⟩
  rw [← hW2]
  clear hW2
  have hseq : SeqGo Fence.wide (10 - 1) Tryz.prog 96 #[.pointer (some ⟨w.heap.size + 1 + 1 + 1 + 1, 0, none⟩), .pointer (some ⟨w.heap.size + 1 + 1 + 1 + 1 + 1, 0, none⟩)] (fun x => #[.agg (vals26 x)]) (fun X Y => X.grownBy Y (some (W2.heap.size + 1))) (fun X Y => KeepsFrom (W2.heap.size + 1 + 1) X Y)
      (fun ys => ys = knownR known zs) (fun pre => pre <+: knownR known zs) zs.length W2 := by
    intro l' J' Jx' W' hW' hle hJ hJx hY' h0'
    exact latest96 (10 - 1) (by omega) (W2.heap.size + 1) l' _ _ b c A zs hA known hlen J' Jx' W' hJ hJx hY' (by omega) ((hW'.cell (show w.heap.size + 1 + 1 + 1 + 1 < W2.heap.size by omega)).trans hf2) ((hW'.cell (show w.heap.size + 1 + 1 + 1 + 1 + 1 < W2.heap.size by omega)).trans hk2) (by omega) (by omega) (by omega) (by omega) (Kd.C_below hrow2 hW') h0'
  refine wpIn_go (F := Fence.wide) rfl (by omega) (gf := 96) (lb := #[.pointer (some ⟨w.heap.size + 1 + 1 + 1 + 1, 0, none⟩), .pointer (some ⟨w.heap.size + 1 + 1 + 1 + 1 + 1, 0, none⟩)]) rfl trivial (enters_of Tryz.func96 (by kernel_rfl) rfl) hseq
    (fun h k => h.trans k) ?hKr ?hKs
    (fun V o o' ho hc => grownBy_putObj' V _ o') (fun _ => rfl)
    (fun pre V => Below W2.heap.size W2 V ∧ ∀ x ∈ pre, cov26 day x = false)
    (fun pre V => (Below w.heap.size w V ∧ ∃ x q, pre = q ++ [x] ∧ (∀ y ∈ q, cov26 day y = false) ∧ cov26 day x = true ∧ V.cell? ⟨w.heap.size + 1 + 1, 0, none⟩ = some (.int .i64 x.f2) ∧ V.cell? ⟨w.heap.size + 1 + 1 + 1, 0, none⟩ = some (.bool (!x.f5))))
    ?hI ?hIr ⟨Below.refl _ _, fun _ h => by cases h⟩
    (fun x a' V => ∃ Bx, W2.heap.size ≤ Bx ∧ (V.cell? ⟨Bx, 0, none⟩ = some (.int .i64 x.f0) ∧ V.cell? ⟨Bx, 1, none⟩ = some (.string x.f1) ∧ V.cell? ⟨Bx, 2, none⟩ = some (.int .i64 x.f2) ∧ V.cell? ⟨Bx, 3, none⟩ = some (.int .i64 x.f3.f0) ∧ V.cell? ⟨Bx, 4, none⟩ = some (.int .i64 x.f3.f1) ∧ V.cell? ⟨Bx, 5, none⟩ = some (.int .i64 x.f4) ∧ V.cell? ⟨Bx, 6, none⟩ = some (.bool x.f5)) ∧
      a' = { tmps := #[Value.agg #[Value.slice A zs.length c], Value.int IntKind.i64 day, Value.int IntKind.i64 known,
          Value.pointer (some { block := w.heap.size, off := 0 }),
          Value.pointer (some { block := w.heap.size + 1, off := 0 }), undef,
          Value.pointer (some { block := w.heap.size + 1 + 1, off := 0 }),
          Value.pointer (some { block := w.heap.size + 1 + 1 + 1, off := 0 }), .pointer (some ⟨Bx, 0, none⟩),
          Value.agg #[Value.slice A zs.length c], Value.int IntKind.i64 known,
          Value.func (Fn.func 96) #[]
            #[Value.pointer (some { block := w.heap.size + 1 + 1 + 1 + 1, off := 0 }),
              Value.pointer (some { block := w.heap.size + 1 + 1 + 1 + 1 + 1, off := 0 })],
          .agg (vals26 x), undef, undef, undef, undef, undef, undef, undef, undef, undef, undef, undef, undef, undef, undef,
          undef, undef, undef], defers := [] })
    ?hAx ?assign ?body ?done ?stop
  case hKr =>
    intro X Y Z h k
    exact (KeepsFrom.of_grownBy h (fun j e => by cases e; omega)).trans k
  case hKs =>
    intro X Y Z h k
    exact h.trans (KeepsFrom.of_grownBy k (fun j e => by cases e; omega))
  case hI => exact OwnFrom.and (ownFrom_below (Nat.le_refl _) (Nat.le_refl _)) (ownFrom_pure _ _)
  case hIr =>
    intro s V V' row hs hg hr
    obtain ⟨hb, x, q, e1, e2, e3, c1, c2⟩ := hs
    have hr' : ∀ r, row = some r → ∃ o : Obj, V.heap[r]? = some o ∧ o.isCells = false := fun r e => (hr r e).2
    exact ⟨hb.grown hg hb.size (fun k e => by have := (hr k e).1; omega), x, q, e1, e2, e3, cell_kept c1 hg hr', cell_kept c2 hg hr'⟩
  case hAx =>
    intro x a' s V V' row hs hg hr
    obtain ⟨Bx, h1, ⟨c0, c1, c2, c3, c4, c5, c6⟩, h3⟩ := hs
    have hr' : ∀ r, row = some r → ∃ o : Obj, V.heap[r]? = some o ∧ o.isCells = false := fun r e => (hr r e).2
    exact ⟨Bx, h1, ⟨cell_kept c0 hg hr', cell_kept c1 hg hr', cell_kept c2 hg hr', cell_kept c3 hg hr', cell_kept c4 hg hr', cell_kept c5 hg hr', cell_kept c6 hg hr'⟩, h3⟩
  case assign =>
    rintro l' pre x V K ⟨hi, hp⟩ hle hK
    gi_wp2
    exact hK _ _ ((KeepsOthers.alloc _ _).from _) (World.grownBy_alloc _ _ _) ⟨hi.alloc hi.size _, hp⟩ ⟨V.heap.size, by omega, ⟨by simp, by simp, by simp, by simp, by simp, by simp, by simp⟩, rfl⟩
  case body =>
    rintro l' pre x a' V ⟨hi, hp⟩ hle ⟨Bx, hBx, ⟨c0, c1, c2, c3, c4, c5, c6⟩, rfl⟩ hplen
    have hdV : V.cell? ⟨w.heap.size + 1, 0, none⟩ = some (.int .i64 day) := (hi.cell (show w.heap.size + 1 < W2.heap.size by omega)).trans hd2
    have hvV : V.cell? ⟨w.heap.size + 1 + 1, 0, none⟩ = some (.int .i64 0) := (hi.cell (show w.heap.size + 1 + 1 < W2.heap.size by omega)).trans hv2
    have hbV : V.cell? ⟨w.heap.size + 1 + 1 + 1, 0, none⟩ = some (.bool false) := (hi.cell (show w.heap.size + 1 + 1 + 1 < W2.heap.size by omega)).trans hb2
    have fvV : V.frozen? ⟨w.heap.size + 1 + 1, 0, none⟩ = false := by
      have := hi.block (w.heap.size + 1 + 1) (by omega)
      unfold World.frozen? at fv2 ⊢
      rw [this]
      exact fv2
    have fbV : V.frozen? ⟨w.heap.size + 1 + 1 + 1, 0, none⟩ = false := by
      have := hi.block (w.heap.size + 1 + 1 + 1) (by omega)
      unfold World.frozen? at fb2 ⊢
      rw [this]
      exact fb2
    by_cases h1 : x.f3.f0 ≤ day
    · by_cases h2 : day < x.f3.f1
      · have hc : cov26 day x = true := by simp [cov26, h1, h2]
        gi_wp2
        gi_region
        all_goals gi_wp2
        all_goals refine ⟨?kf, ?kf2, ?bl, x, pre, rfl, hp, hc, ?c1, ?c2⟩
        case kf => with_reducible repeat first | exact KeepsFrom.refl _ _ | apply kf_set | apply kf_drew
        case kf2 => with_reducible repeat first | exact KeepsFrom.refl _ _ | apply kf_set | apply kf_drew
        case bl => with_reducible repeat first | exact hB2.trans (hi.mono (by omega)) | refine bl_set ?_ _ _ _ (by omega) | apply below_drew1
        case c1 => go_simp
        case c2 => go_simp
      · have hc : cov26 day x = false := by simp [cov26, h2]
        gi_wp2
        exact ⟨KeepsFrom.refl _ _, World.grownBy.refl _ _, hi, fun y hy => by rcases List.mem_append.1 hy with hy | hy; exact hp y hy; rw [List.mem_singleton.1 hy]; exact hc⟩
    · have hc : cov26 day x = false := by simp [cov26, h1]
      gi_wp2
      exact ⟨KeepsFrom.refl _ _, World.grownBy.refl _ _, hi, fun y hy => by rcases List.mem_append.1 hy with hy | hy; exact hp y hy; rw [List.mem_singleton.1 hy]; exact hc⟩
  case done =>
    rintro xs V rfl ⟨hi, hp⟩ hK
    have hvV : V.cell? ⟨w.heap.size + 1 + 1, 0, none⟩ = some (.int .i64 0) := (hi.cell (show w.heap.size + 1 + 1 < W2.heap.size by omega)).trans hv2
    have hbV : V.cell? ⟨w.heap.size + 1 + 1 + 1, 0, none⟩ = some (.bool false) := (hi.cell (show w.heap.size + 1 + 1 + 1 < W2.heap.size by omega)).trans hb2
    have fvV : V.frozen? ⟨w.heap.size + 1 + 1, 0, none⟩ = false := by
      have := hi.block (w.heap.size + 1 + 1) (by omega)
      unfold World.frozen? at fv2 ⊢
      rw [this]
      exact fv2
    have fbV : V.frozen? ⟨w.heap.size + 1 + 1 + 1, 0, none⟩ = false := by
      have := hi.block (w.heap.size + 1 + 1 + 1) (by omega)
      unfold World.frozen? at fb2 ⊢
      rw [this]
      exact fb2
    have e : onF zs day known = (0, false) := by unfold onF; rw [List.find?_eq_none.mpr (fun y hy => by rw [hp y hy]; simp)]
    gi_wp2
    refine ⟨by simp, .inl ⟨_, _, rfl, run_takeDeferred (show _ = some (Obj.deferred (some [])) from (KeepsOthers.setCell _ _ _).same _ _ ((KeepsOthers.setCell _ _ _).same _ _ hK rfl) rfl), ?_⟩⟩
    refine ⟨.tuple #[.int .i64 0, .bool false], ?res, ?eq, ?bl⟩
    case res =>
      have z1 : ((V.setCell ⟨w.heap.size + 1 + 1, 0, none⟩ (.int .i64 0)).setCell ⟨w.heap.size + 1 + 1 + 1, 0, none⟩ (.bool false)).cell? ⟨w.heap.size + 1 + 1, 0, none⟩ = some (.int .i64 0) := by go_simp
      have z2 : ((V.setCell ⟨w.heap.size + 1 + 1, 0, none⟩ (.int .i64 0)).setCell ⟨w.heap.size + 1 + 1 + 1, 0, none⟩ (.bool false)).cell? ⟨w.heap.size + 1 + 1 + 1, 0, none⟩ = some (.bool false) := by go_simp
      have c1 := cell_put (l := W2.heap.size) (o := Obj.deferred none) z1 (by omega)
      have c2 := cell_put (l := W2.heap.size) (o := Obj.deferred none) z2 (by omega)
      clear z1 z2
      simp only [results, show Tryz.f36.results = #[.cell 6 3, .cell 7 4] from rfl]
      go_simp
    case eq => rw [e]
    case bl =>
      have hb9 : Below w.heap.size w ((V.setCell ⟨w.heap.size + 1 + 1, 0, none⟩ (.int .i64 0)).setCell ⟨w.heap.size + 1 + 1 + 1, 0, none⟩ (.bool false)) := bl_set (bl_set (hB2.trans (hi.mono (by omega))) _ _ _ (by omega)) _ _ _ (by omega)
      exact hb9.grown (grownBy_putObj' _ _ _) hb9.size (fun k e => by cases e; omega)
  case stop =>
    rintro pre V hS ⟨hb, x, q, rfl, hq, hx, c1, c2⟩ hK
    have e : onF zs day known = (x.f2, !x.f5) := by unfold onF; rw [find_stop _ q x _ hS hq hx]
    gi_wp2
    refine ⟨by simp, .inl ⟨_, _, rfl, run_takeDeferred hK, ?_⟩⟩
    refine ⟨.tuple #[.int .i64 x.f2, .bool (!x.f5)], ?res, ?eq, ?bl⟩
    case res =>
      replace c1 := cell_put (l := W2.heap.size) (o := Obj.deferred none) c1 (by omega)
      replace c2 := cell_put (l := W2.heap.size) (o := Obj.deferred none) c2 (by omega)
      simp only [results, show Tryz.f36.results = #[.cell 6 3, .cell 7 4] from rfl]
      go_simp
    case eq => rw [e]
    case bl => exact hb.grown (grownBy_putObj' _ _ _) hb.size (fun k e => by cases e; omega)
end
section
open Go.Sort (grow alloc_eq_grow grow_grow)
theorem cmpi91 (x y : Int) (W : World) : Calls Tryz.prog 91 #[.int .i64 x, .int .i64 y] W fun e w' => e = .returned (.int .i64 (Lib.compareInt x y)) ∧ w' = W := Tryz.cmp_Compare_int x y W
/-- Strings, in the model's order of bytes. -/
def cmpS (a b : ByteArray) : Int := if Op.bytesLess a.toList b.toList then -1 else if a.toList == b.toList then 0 else 1
set_option maxHeartbeats 1000000 in
theorem nan147 (a : ByteArray) (W : World) : Calls Tryz.prog 147 #[.string a] W fun e w' => e = .returned (.bool false) ∧ w' = W := by
  go_enter Tryz.func147, Tryz.ntmps147
  go_wp2
  go_ret
  exact ⟨by simp, rfl⟩
set_option maxHeartbeats 1000000 in
theorem cmps112 (a b : ByteArray) (W : World) : Calls Tryz.prog 112 #[.string a, .string b] W fun e w' => e = .returned (.int .i64 (cmpS a b)) ∧ w' = W := by
  unfold cmpS
  cases h1 : Op.bytesLess a.toList b.toList
  · cases h2 : (a.toList == b.toList)
    all_goals
      go_enter Tryz.func112, Tryz.ntmps112
      go_wp2_with (go_at_call 147; refine (nan147 _ _).mono ?_; rintro e w' ⟨rfl, rfl⟩)
      go_ret
      exact ⟨by simp [h1, h2], rfl⟩
  · go_enter Tryz.func112, Tryz.ntmps112
    go_wp2_with (go_at_call 147; refine (nan147 _ _).mono ?_; rintro e w' ⟨rfl, rfl⟩)
    go_ret
    exact ⟨by simp [h1], rfl⟩
set_option maxHeartbeats 1000000 in
theorem key82 (x y : S26) (W : World) : Calls Tryz.prog 82 #[.agg (vals26 x), .agg (vals26 y)] W fun e w' => e = .returned (.int .i64 (Lib.compareInt x.f4 y.f4)) ∧ Grew W w' := by
  go_enter Tryz.func82, Tryz.ntmps82
  go_wp2_with (go_at_call 91; refine (cmpi91 _ _ _).mono ?_; rintro e w' ⟨rfl, rfl⟩)
  go_ret
  exact ⟨rfl, ((Grew.refl _).alloc _).alloc _⟩
set_option maxHeartbeats 1000000 in
theorem key83 (x y : S26) (W : World) : Calls Tryz.prog 83 #[.agg (vals26 x), .agg (vals26 y)] W fun e w' => e = .returned (.int .i64 (Lib.compareInt x.f0 y.f0)) ∧ Grew W w' := by
  go_enter Tryz.func83, Tryz.ntmps83
  go_wp2_with (go_at_call 91; refine (cmpi91 _ _ _).mono ?_; rintro e w' ⟨rfl, rfl⟩)
  go_ret
  exact ⟨rfl, ((Grew.refl _).alloc _).alloc _⟩
set_option maxHeartbeats 1000000 in
theorem key85 (x y : S26) (W : World) : Calls Tryz.prog 85 #[.agg (vals26 x), .agg (vals26 y)] W fun e w' => e = .returned (.int .i64 (Lib.compareInt x.f3.f0 y.f3.f0)) ∧ Grew W w' := by
  go_enter Tryz.func85, Tryz.ntmps85
  go_wp2_with (go_at_call 91; refine (cmpi91 _ _ _).mono ?_; rintro e w' ⟨rfl, rfl⟩)
  go_ret
  exact ⟨rfl, ((Grew.refl _).alloc _).alloc _⟩
set_option maxHeartbeats 1000000 in
theorem key86 (x y : S26) (W : World) : Calls Tryz.prog 86 #[.agg (vals26 x), .agg (vals26 y)] W fun e w' => e = .returned (.int .i64 (Lib.compareInt x.f3.f1 y.f3.f1)) ∧ Grew W w' := by
  go_enter Tryz.func86, Tryz.ntmps86
  go_wp2_with (go_at_call 91; refine (cmpi91 _ _ _).mono ?_; rintro e w' ⟨rfl, rfl⟩)
  go_ret
  exact ⟨rfl, ((Grew.refl _).alloc _).alloc _⟩
set_option maxHeartbeats 1000000 in
theorem key87 (x y : S26) (W : World) : Calls Tryz.prog 87 #[.agg (vals26 x), .agg (vals26 y)] W fun e w' => e = .returned (.int .i64 (Lib.compareInt x.f2 y.f2)) ∧ Grew W w' := by
  go_enter Tryz.func87, Tryz.ntmps87
  go_wp2_with (go_at_call 91; refine (cmpi91 _ _ _).mono ?_; rintro e w' ⟨rfl, rfl⟩)
  go_ret
  exact ⟨rfl, ((Grew.refl _).alloc _).alloc _⟩
set_option maxHeartbeats 1000000 in
theorem key84 (x y : S26) (W : World) : Calls Tryz.prog 84 #[.agg (vals26 x), .agg (vals26 y)] W fun e w' => e = .returned (.int .i64 (cmpS x.f1 y.f1)) ∧ Grew W w' := by
  go_enter Tryz.func84, Tryz.ntmps84
  go_wp2_with (go_at_call 112; refine (cmps112 _ _ _).mono ?_; rintro e w' ⟨rfl, rfl⟩)
  go_ret
  exact ⟨rfl, ((Grew.refl _).alloc _).alloc _⟩
/-- false before true. -/
def cmpB (a b : Bool) : Int := if a == b then 0 else if b then -1 else 1
set_option maxHeartbeats 1000000 in
theorem key88 (x y : S26) (W : World) : Calls Tryz.prog 88 #[.agg (vals26 x), .agg (vals26 y)] W fun e w' => e = .returned (.int .i64 (cmpB x.f5 y.f5)) ∧ Grew W w' := by
  cases h1 : x.f5 <;> cases h2 : y.f5
  all_goals
    go_enter Tryz.func88, Tryz.ntmps88
    go_wp2
    go_ret
    exact ⟨by simp [cmpB], ((Grew.refl _).alloc _).alloc _⟩
/-- The first one that is not 0. -/
def first7 (r0 r1 r2 r3 r4 r5 r6 : Int) : Int := if r0 ≠ 0 then r0 else if r1 ≠ 0 then r1 else if r2 ≠ 0 then r2 else if r3 ≠ 0 then r3 else if r4 ≠ 0 then r4 else if r5 ≠ 0 then r5 else r6
set_option maxHeartbeats 16000000 in
set_option maxRecDepth 100000 in
theorem cmp_gen (x y : S26) (W : World) (r0 r1 r2 r3 r4 r5 r6 : Int)
    (h0 : ∀ W', Calls Tryz.prog 82 #[.agg (vals26 x), .agg (vals26 y)] W' fun e w' => e = .returned (.int .i64 r0) ∧ Grew W' w')
    (h1 : ∀ W', Calls Tryz.prog 83 #[.agg (vals26 x), .agg (vals26 y)] W' fun e w' => e = .returned (.int .i64 r1) ∧ Grew W' w')
    (h2 : ∀ W', Calls Tryz.prog 84 #[.agg (vals26 x), .agg (vals26 y)] W' fun e w' => e = .returned (.int .i64 r2) ∧ Grew W' w')
    (h3 : ∀ W', Calls Tryz.prog 85 #[.agg (vals26 x), .agg (vals26 y)] W' fun e w' => e = .returned (.int .i64 r3) ∧ Grew W' w')
    (h4 : ∀ W', Calls Tryz.prog 86 #[.agg (vals26 x), .agg (vals26 y)] W' fun e w' => e = .returned (.int .i64 r4) ∧ Grew W' w')
    (h5 : ∀ W', Calls Tryz.prog 87 #[.agg (vals26 x), .agg (vals26 y)] W' fun e w' => e = .returned (.int .i64 r5) ∧ Grew W' w')
    (h6 : ∀ W', Calls Tryz.prog 88 #[.agg (vals26 x), .agg (vals26 y)] W' fun e w' => e = .returned (.int .i64 r6) ∧ Grew W' w') :
    Calls Tryz.prog 51 #[.agg (vals26 x), .agg (vals26 y)] W fun e w' => e = .returned (.int .i64 (first7 r0 r1 r2 r3 r4 r5 r6)) ∧ Grew W w' := by
  have H0 := Lib.hid h0
  have H1 := Lib.hid h1
  have H2 := Lib.hid h2
  have H3 := Lib.hid h3
  have H4 := Lib.hid h4
  have H5 := Lib.hid h5
  have H6 := Lib.hid h6
  clear h0 h1 h2 h3 h4 h5 h6
  go_enter Tryz.func51, Tryz.ntmps51
  go_wp2_with fail
  obtain ⟨W2, hW2⟩ : ∃ w_ : World, w_ = ((((W.alloc (Obj.cells (vals26 x) 26)).alloc (Obj.cells (vals26 y) 26)).alloc (Obj.cells (vals26 x) 104)).alloc (Obj.cells #[.func (.func 82) #[.agg (vals26 x)] #[], .func (.func 83) #[.agg (vals26 x)] #[], .func (.func 84) #[.agg (vals26 x)] #[], .func (.func 85) #[.agg (vals26 x)] #[], .func (.func 86) #[.agg (vals26 x)] #[], .func (.func 87) #[.agg (vals26 x)] #[], .func (.func 88) #[.agg (vals26 x)] #[]] 105)) := ⟨_, rfl⟩
  have hg0 : Grew W W2 := by rw [hW2]; exact ((((Grew.refl _).alloc _).alloc _).alloc _).alloc _
  have C0 := Aside0.mk (show W2.cell? ⟨W.heap.size + 1, 0, none⟩ = some (.int .i64 y.f0) by rw [hW2]; go_simp)
  have C1 := Aside0.mk (show W2.cell? ⟨W.heap.size + 1, 1, none⟩ = some (.string y.f1) by rw [hW2]; go_simp)
  have C2 := Aside0.mk (show W2.cell? ⟨W.heap.size + 1, 2, none⟩ = some (.int .i64 y.f2) by rw [hW2]; go_simp)
  have C3 := Aside0.mk (show W2.cell? ⟨W.heap.size + 1, 3, none⟩ = some (.int .i64 y.f3.f0) by rw [hW2]; go_simp)
  have C4 := Aside0.mk (show W2.cell? ⟨W.heap.size + 1, 4, none⟩ = some (.int .i64 y.f3.f1) by rw [hW2]; go_simp)
  have C5 := Aside0.mk (show W2.cell? ⟨W.heap.size + 1, 5, none⟩ = some (.int .i64 y.f4) by rw [hW2]; go_simp)
  have C6 := Aside0.mk (show W2.cell? ⟨W.heap.size + 1, 6, none⟩ = some (.bool y.f5) by rw [hW2]; go_simp)
  have D0 := Aside0.mk (show W2.cell? ⟨W.heap.size + 1 + 1 + 1, 0, none⟩ = some (.func (.func 82) #[.agg (vals26 x)] #[]) by rw [hW2]; go_simp)
  have D1 := Aside0.mk (show W2.cell? ⟨W.heap.size + 1 + 1 + 1, 1, none⟩ = some (.func (.func 83) #[.agg (vals26 x)] #[]) by rw [hW2]; go_simp)
  have D2 := Aside0.mk (show W2.cell? ⟨W.heap.size + 1 + 1 + 1, 2, none⟩ = some (.func (.func 84) #[.agg (vals26 x)] #[]) by rw [hW2]; go_simp)
  have D3 := Aside0.mk (show W2.cell? ⟨W.heap.size + 1 + 1 + 1, 3, none⟩ = some (.func (.func 85) #[.agg (vals26 x)] #[]) by rw [hW2]; go_simp)
  have D4 := Aside0.mk (show W2.cell? ⟨W.heap.size + 1 + 1 + 1, 4, none⟩ = some (.func (.func 86) #[.agg (vals26 x)] #[]) by rw [hW2]; go_simp)
  have D5 := Aside0.mk (show W2.cell? ⟨W.heap.size + 1 + 1 + 1, 5, none⟩ = some (.func (.func 87) #[.agg (vals26 x)] #[]) by rw [hW2]; go_simp)
  have D6 := Aside0.mk (show W2.cell? ⟨W.heap.size + 1 + 1 + 1, 6, none⟩ = some (.func (.func 88) #[.agg (vals26 x)] #[]) by rw [hW2]; go_simp)
  dsimp only [vals26] at hW2
  rw [← hW2]
  have hg0' := Aside0.mk hg0
  have hgw := Aside0.mk (Grew.refl W2)
  have c0 := C0.out
  have c1 := C1.out
  have c2 := C2.out
  have c3 := C3.out
  have c4 := C4.out
  have c5 := C5.out
  have c6 := C6.out
  have s0 := D0.out
  dsimp only [vals26] at s0
  clear hW2 hg0
  refine wp_loop_rounds 8 ?_
  by_cases q0 : r0 = 0
  case neg =>
    have b0 : (r0 == 0) = false := by simp [q0]
    rw [rounds_succ]
    go_wp2_with (go_at_call 82; refine (H0.out _).mono ?_; rintro e w3 ⟨rfl, hg⟩; have hgw := Aside0.mk (Grew.trans hgw.out hg); clear hg; have c0 := hgw.out.cell C0.out; have c1 := hgw.out.cell C1.out; have c2 := hgw.out.cell C2.out; have c3 := hgw.out.cell C3.out; have c4 := hgw.out.cell C4.out; have c5 := hgw.out.cell C5.out; have c6 := hgw.out.cell C6.out; have s0 := hgw.out.cell D0.out; have s1 := hgw.out.cell D1.out)
    go_ret
    exact ⟨by simp [first7, q0], hg0'.out.trans hgw.out⟩
  subst q0
  rw [rounds_succ]
  go_wp2_with (go_at_call 82; refine (H0.out _).mono ?_; rintro e w3 ⟨rfl, hg⟩; have hgw := Aside0.mk (Grew.trans hgw.out hg); clear hg; have c0 := hgw.out.cell C0.out; have c1 := hgw.out.cell C1.out; have c2 := hgw.out.cell C2.out; have c3 := hgw.out.cell C3.out; have c4 := hgw.out.cell C4.out; have c5 := hgw.out.cell C5.out; have c6 := hgw.out.cell C6.out; have s0 := hgw.out.cell D0.out; have s1 := hgw.out.cell D1.out)
  by_cases q1 : r1 = 0
  case neg =>
    have b1 : (r1 == 0) = false := by simp [q1]
    rw [rounds_succ]
    go_wp2_with (go_at_call 83; refine (H1.out _).mono ?_; rintro e w4 ⟨rfl, hg⟩; have hgw := Aside0.mk (Grew.trans hgw.out hg); clear hg; have c0 := hgw.out.cell C0.out; have c1 := hgw.out.cell C1.out; have c2 := hgw.out.cell C2.out; have c3 := hgw.out.cell C3.out; have c4 := hgw.out.cell C4.out; have c5 := hgw.out.cell C5.out; have c6 := hgw.out.cell C6.out; have s0 := hgw.out.cell D0.out; have s1 := hgw.out.cell D1.out; have s2 := hgw.out.cell D2.out)
    go_ret
    exact ⟨by simp [first7, q1], hg0'.out.trans hgw.out⟩
  subst q1
  rw [rounds_succ]
  go_wp2_with (go_at_call 83; refine (H1.out _).mono ?_; rintro e w4 ⟨rfl, hg⟩; have hgw := Aside0.mk (Grew.trans hgw.out hg); clear hg; have c0 := hgw.out.cell C0.out; have c1 := hgw.out.cell C1.out; have c2 := hgw.out.cell C2.out; have c3 := hgw.out.cell C3.out; have c4 := hgw.out.cell C4.out; have c5 := hgw.out.cell C5.out; have c6 := hgw.out.cell C6.out; have s0 := hgw.out.cell D0.out; have s1 := hgw.out.cell D1.out; have s2 := hgw.out.cell D2.out)
  by_cases q2 : r2 = 0
  case neg =>
    have b2 : (r2 == 0) = false := by simp [q2]
    rw [rounds_succ]
    go_wp2_with (go_at_call 84; refine (H2.out _).mono ?_; rintro e w5 ⟨rfl, hg⟩; have hgw := Aside0.mk (Grew.trans hgw.out hg); clear hg; have c0 := hgw.out.cell C0.out; have c1 := hgw.out.cell C1.out; have c2 := hgw.out.cell C2.out; have c3 := hgw.out.cell C3.out; have c4 := hgw.out.cell C4.out; have c5 := hgw.out.cell C5.out; have c6 := hgw.out.cell C6.out; have s0 := hgw.out.cell D0.out; have s1 := hgw.out.cell D1.out; have s2 := hgw.out.cell D2.out; have s3 := hgw.out.cell D3.out)
    go_ret
    exact ⟨by simp [first7, q2], hg0'.out.trans hgw.out⟩
  subst q2
  rw [rounds_succ]
  go_wp2_with (go_at_call 84; refine (H2.out _).mono ?_; rintro e w5 ⟨rfl, hg⟩; have hgw := Aside0.mk (Grew.trans hgw.out hg); clear hg; have c0 := hgw.out.cell C0.out; have c1 := hgw.out.cell C1.out; have c2 := hgw.out.cell C2.out; have c3 := hgw.out.cell C3.out; have c4 := hgw.out.cell C4.out; have c5 := hgw.out.cell C5.out; have c6 := hgw.out.cell C6.out; have s0 := hgw.out.cell D0.out; have s1 := hgw.out.cell D1.out; have s2 := hgw.out.cell D2.out; have s3 := hgw.out.cell D3.out)
  by_cases q3 : r3 = 0
  case neg =>
    have b3 : (r3 == 0) = false := by simp [q3]
    rw [rounds_succ]
    go_wp2_with (go_at_call 85; refine (H3.out _).mono ?_; rintro e w6 ⟨rfl, hg⟩; have hgw := Aside0.mk (Grew.trans hgw.out hg); clear hg; have c0 := hgw.out.cell C0.out; have c1 := hgw.out.cell C1.out; have c2 := hgw.out.cell C2.out; have c3 := hgw.out.cell C3.out; have c4 := hgw.out.cell C4.out; have c5 := hgw.out.cell C5.out; have c6 := hgw.out.cell C6.out; have s0 := hgw.out.cell D0.out; have s1 := hgw.out.cell D1.out; have s2 := hgw.out.cell D2.out; have s3 := hgw.out.cell D3.out; have s4 := hgw.out.cell D4.out)
    go_ret
    exact ⟨by simp [first7, q3], hg0'.out.trans hgw.out⟩
  subst q3
  rw [rounds_succ]
  go_wp2_with (go_at_call 85; refine (H3.out _).mono ?_; rintro e w6 ⟨rfl, hg⟩; have hgw := Aside0.mk (Grew.trans hgw.out hg); clear hg; have c0 := hgw.out.cell C0.out; have c1 := hgw.out.cell C1.out; have c2 := hgw.out.cell C2.out; have c3 := hgw.out.cell C3.out; have c4 := hgw.out.cell C4.out; have c5 := hgw.out.cell C5.out; have c6 := hgw.out.cell C6.out; have s0 := hgw.out.cell D0.out; have s1 := hgw.out.cell D1.out; have s2 := hgw.out.cell D2.out; have s3 := hgw.out.cell D3.out; have s4 := hgw.out.cell D4.out)
  by_cases q4 : r4 = 0
  case neg =>
    have b4 : (r4 == 0) = false := by simp [q4]
    rw [rounds_succ]
    go_wp2_with (go_at_call 86; refine (H4.out _).mono ?_; rintro e w7 ⟨rfl, hg⟩; have hgw := Aside0.mk (Grew.trans hgw.out hg); clear hg; have c0 := hgw.out.cell C0.out; have c1 := hgw.out.cell C1.out; have c2 := hgw.out.cell C2.out; have c3 := hgw.out.cell C3.out; have c4 := hgw.out.cell C4.out; have c5 := hgw.out.cell C5.out; have c6 := hgw.out.cell C6.out; have s0 := hgw.out.cell D0.out; have s1 := hgw.out.cell D1.out; have s2 := hgw.out.cell D2.out; have s3 := hgw.out.cell D3.out; have s4 := hgw.out.cell D4.out; have s5 := hgw.out.cell D5.out)
    go_ret
    exact ⟨by simp [first7, q4], hg0'.out.trans hgw.out⟩
  subst q4
  rw [rounds_succ]
  go_wp2_with (go_at_call 86; refine (H4.out _).mono ?_; rintro e w7 ⟨rfl, hg⟩; have hgw := Aside0.mk (Grew.trans hgw.out hg); clear hg; have c0 := hgw.out.cell C0.out; have c1 := hgw.out.cell C1.out; have c2 := hgw.out.cell C2.out; have c3 := hgw.out.cell C3.out; have c4 := hgw.out.cell C4.out; have c5 := hgw.out.cell C5.out; have c6 := hgw.out.cell C6.out; have s0 := hgw.out.cell D0.out; have s1 := hgw.out.cell D1.out; have s2 := hgw.out.cell D2.out; have s3 := hgw.out.cell D3.out; have s4 := hgw.out.cell D4.out; have s5 := hgw.out.cell D5.out)
  by_cases q5 : r5 = 0
  case neg =>
    have b5 : (r5 == 0) = false := by simp [q5]
    rw [rounds_succ]
    go_wp2_with (go_at_call 87; refine (H5.out _).mono ?_; rintro e w8 ⟨rfl, hg⟩; have hgw := Aside0.mk (Grew.trans hgw.out hg); clear hg; have c0 := hgw.out.cell C0.out; have c1 := hgw.out.cell C1.out; have c2 := hgw.out.cell C2.out; have c3 := hgw.out.cell C3.out; have c4 := hgw.out.cell C4.out; have c5 := hgw.out.cell C5.out; have c6 := hgw.out.cell C6.out; have s0 := hgw.out.cell D0.out; have s1 := hgw.out.cell D1.out; have s2 := hgw.out.cell D2.out; have s3 := hgw.out.cell D3.out; have s4 := hgw.out.cell D4.out; have s5 := hgw.out.cell D5.out; have s6 := hgw.out.cell D6.out)
    go_ret
    exact ⟨by simp [first7, q5], hg0'.out.trans hgw.out⟩
  subst q5
  rw [rounds_succ]
  go_wp2_with (go_at_call 87; refine (H5.out _).mono ?_; rintro e w8 ⟨rfl, hg⟩; have hgw := Aside0.mk (Grew.trans hgw.out hg); clear hg; have c0 := hgw.out.cell C0.out; have c1 := hgw.out.cell C1.out; have c2 := hgw.out.cell C2.out; have c3 := hgw.out.cell C3.out; have c4 := hgw.out.cell C4.out; have c5 := hgw.out.cell C5.out; have c6 := hgw.out.cell C6.out; have s0 := hgw.out.cell D0.out; have s1 := hgw.out.cell D1.out; have s2 := hgw.out.cell D2.out; have s3 := hgw.out.cell D3.out; have s4 := hgw.out.cell D4.out; have s5 := hgw.out.cell D5.out; have s6 := hgw.out.cell D6.out)
  by_cases q6 : r6 = 0
  case neg =>
    have b6 : (r6 == 0) = false := by simp [q6]
    rw [rounds_succ]
    go_wp2_with (go_at_call 88; refine (H6.out _).mono ?_; rintro e w9 ⟨rfl, hg⟩; have hgw := Aside0.mk (Grew.trans hgw.out hg); clear hg; have c0 := hgw.out.cell C0.out; have c1 := hgw.out.cell C1.out; have c2 := hgw.out.cell C2.out; have c3 := hgw.out.cell C3.out; have c4 := hgw.out.cell C4.out; have c5 := hgw.out.cell C5.out; have c6 := hgw.out.cell C6.out; have s0 := hgw.out.cell D0.out; have s1 := hgw.out.cell D1.out; have s2 := hgw.out.cell D2.out; have s3 := hgw.out.cell D3.out; have s4 := hgw.out.cell D4.out; have s5 := hgw.out.cell D5.out; have s6 := hgw.out.cell D6.out)
    go_ret
    exact ⟨by simp [first7, q6], hg0'.out.trans hgw.out⟩
  subst q6
  rw [rounds_succ]
  go_wp2_with (go_at_call 88; refine (H6.out _).mono ?_; rintro e w9 ⟨rfl, hg⟩; have hgw := Aside0.mk (Grew.trans hgw.out hg); clear hg; have c0 := hgw.out.cell C0.out; have c1 := hgw.out.cell C1.out; have c2 := hgw.out.cell C2.out; have c3 := hgw.out.cell C3.out; have c4 := hgw.out.cell C4.out; have c5 := hgw.out.cell C5.out; have c6 := hgw.out.cell C6.out; have s0 := hgw.out.cell D0.out; have s1 := hgw.out.cell D1.out; have s2 := hgw.out.cell D2.out; have s3 := hgw.out.cell D3.out; have s4 := hgw.out.cell D4.out; have s5 := hgw.out.cell D5.out; have s6 := hgw.out.cell D6.out)
  rw [rounds_succ]
  go_wp2
  go_ret
  exact ⟨by simp [first7], hg0'.out.trans hgw.out⟩
theorem cmp51 (x y : S26) (W : World) : Calls Tryz.prog 51 #[.agg (vals26 x), .agg (vals26 y)] W fun e w' => e = .returned (.int .i64 (first7 (Lib.compareInt x.f4 y.f4) (Lib.compareInt x.f0 y.f0) (cmpS x.f1 y.f1) (Lib.compareInt x.f3.f0 y.f3.f0) (Lib.compareInt x.f3.f1 y.f3.f1) (Lib.compareInt x.f2 y.f2) (cmpB x.f5 y.f5))) ∧ Grew W w' :=
  cmp_gen x y W _ _ _ _ _ _ _ (key82 x y) (key83 x y) (key84 x y) (key85 x y) (key86 x y) (key87 x y) (key88 x y)
end
section
open Go.Lib
open Go.Sort (grow alloc_eq_grow grow_grow Holds putRow flatK HoldsK putRowK setMany get_setMany size_setMany get_flatK size_flatK ext_get! blk_iff)
theorem enc26_one (x : S26) : ∀ v ∈ enc26 x, v.oneCell' = true := by
  intro v hv
  simp [enc26] at hv
  rcases hv with rfl | rfl | rfl | rfl | rfl | rfl | rfl <;> rfl
theorem setMany_set {α : Type} [Inhabited α] (enc : α → List Value) (k : Nat) (hk : ∀ x, (enc x).length = k) (d : Array α) (i : Nat) (hi : i < d.size) (x : α) : setMany (flatK enc k d) (i * k) (enc x) = flatK enc k (d.setIfInBounds i x) := by
  refine ext_get! (by simp) fun t ht => ?_
  have ht' : t < d.size * k := by simpa using ht
  have k0 : 0 < k := by
    rcases Nat.eq_zero_or_pos k with h | h
    · subst h; simp at ht'
    · exact h
  rw [get_setMany _ _ _ t (by simpa using ht'), hk, get_flatK _ _ _ t ht', get_flatK _ _ _ t (by simpa using ht')]
  by_cases a : t / k = i
  · rw [if_pos ((blk_iff k i t k0).2 a), show t - i * k = t % k by rw [← a, Nat.mod_eq_sub_div_mul]]
    simp [a, hi]
  · rw [if_neg (fun h => a ((blk_iff k i t k0).1 h))]
    have hq : t / k < d.size := Nat.div_lt_of_lt_mul (by rw [Nat.mul_comm]; exact ht')
    have e : (d.setIfInBounds i x)[t / k]! = d[t / k]! := by simp [Array.getElem!_eq_getD, Array.getD, Array.getElem_setIfInBounds, hq, Ne.symm a]
    rw [e]
theorem swk_put {α : Type} [Inhabited α] {enc : α → List Value} {k : Nat} {w0 W : World} {blk off : Nat} {dk : Array α} (h : SWK enc k w0 blk off dk W) (hk : ∀ x, (enc x).length = k) (hblk : blk < w0.heap.size) (i : Nat) (hi : i < dk.size) (x : α) :
    SWK enc k w0 blk off (dk.setIfInBounds i x) (W.setCells blk (off + i * k) (enc x)) := by
  obtain ⟨n, os, rfl⟩ := h
  refine ⟨n, os, ?_⟩
  unfold sortWorldK
  have hb : i * k + k ≤ dk.size * k := by
    have := Nat.mul_le_mul_right k (show i + 1 ≤ dk.size from hi)
    rwa [Nat.add_mul, Nat.one_mul] at this
  rw [Go.Sort.setCells_grow os blk _ _ _ (by rw [Go.Sort.size_putRowK]; exact hblk)]
  unfold putRowK
  rw [Go.Sort.setCells_putRow _ _ _ _ _ _ (by rw [hk, size_flatK]; exact hb), setMany_set enc k hk dk i hi x]
theorem swk_grew {α : Type} [Inhabited α] {enc : α → List Value} {k : Nat} {w0 W W' : World} {blk off : Nat} {dk : Array α} (h : SWK enc k w0 blk off dk W) (hg : Grew W W') : SWK enc k w0 blk off dk W' := by
  obtain ⟨q, os, rfl⟩ := hg
  exact h.grown q os
/-- A cell of another block than the row's, in the worlds over the row. -/
theorem swk_far {α : Type} [Inhabited α] {enc : α → List Value} {k : Nat} {w0 W : World} {blk off : Nat} {dk : Array α} (h : SWK enc k w0 blk off dk W) (b : Nat) (hb : b < w0.heap.size) (hne : b ≠ blk) : W.heap[b]? = w0.heap[b]? := by
  obtain ⟨n, os, rfl⟩ := h
  unfold sortWorldK
  rw [Go.Sort.heap_grow_old _ _ (by rw [Go.Sort.size_putRowK]; exact hb)]
  unfold putRowK
  simp only [putRow, Go.Sort.mapBlock, Array.getElem?_modify]
  rw [if_neg (Ne.symm hne)]
  rfl
theorem swk_below {α : Type} [Inhabited α] {enc : α → List Value} {k : Nat} {w0 W : World} {blk off : Nat} {dk : Array α} (h : SWK enc k w0 blk off dk W) (hblk : blk < w0.heap.size) : Below blk w0 W := by
  have hs := h.le
  have hf := swk_far h
  obtain ⟨n, os, rfl⟩ := h
  exact ⟨rfl, rfl, rfl, hs, fun b hb => hf b (by omega) (by omega)⟩
set_option maxHeartbeats 1000000 in
theorem clo70 (B1 B2 : Nat) (home : Int) (name : ByteArray) (x : S26) (W : World) (h1 : W.cell? ⟨B1, 0, none⟩ = some (.int .i64 home)) (h2 : W.cell? ⟨B2, 0, none⟩ = some (.string name)) :
    Calls Tryz.prog 70 #[.agg (vals26 x), .pointer (some ⟨B1, 0, none⟩), .pointer (some ⟨B2, 0, none⟩)] W fun e w' => e = .returned (.bool (!(ownB home name x))) ∧ Grew W w' := by
  have l1 := World.block_lt_of_cell? W _ h1
  have l2 := World.block_lt_of_cell? W _ h2
  by_cases e1 : x.f0 = home
  · have b1 : (x.f0 == home) = true := by simp [e1]
    have b1' : (x.f0 != home) = false := by simp [e1]
    cases e2 : (x.f1.toList == name.toList)
    all_goals
      go_enter Tryz.func70, Tryz.ntmps70
      go_wp2
      go_ret
      exact ⟨by simp [ownB, b1, e2], (Grew.refl _).alloc _⟩
  · have b1 : (x.f0 == home) = false := by simp [e1]
    have b1' : (x.f0 != home) = true := by simp [e1]
    go_enter Tryz.func70, Tryz.ntmps70
    go_wp2
    go_ret
    exact ⟨by simp [ownB, b1], (Grew.refl _).alloc _⟩
/-- slices.IndexFunc with that closure. -/
theorem idx63 (B1 B2 g cap : Nat) (home : Int) (name : ByteArray) (l : List S26) (W : World) (hH : HoldsK enc26 7 W g 0 l.toArray) (hg : g < W.heap.size) (h1 : W.cell? ⟨B1, 0, none⟩ = some (.int .i64 home)) (h2 : W.cell? ⟨B2, 0, none⟩ = some (.string name)) (hlen : l.length < 4398046511104) :
    Calls Tryz.prog 63 #[.slice (some ⟨g, 0, none⟩) l.length cap, .func (.func 70) #[] #[.pointer (some ⟨B1, 0, none⟩), .pointer (some ⟨B2, 0, none⟩)]] W fun e w' => e = .returned (.int .i64 (Lib.idxBy (fun _ y => !(ownB home name y)) l default)) ∧ Below W.heap.size W w' := by
  have hcon := AnyQ.slices_IndexFunc Tryz.layIdxR 7 Tryz.isAgg26 Tryz.sizeOf26 enc26 enc26_len (fun x => !(ownB home name x)) 70 #[.pointer (some ⟨B1, 0, none⟩), .pointer (some ⟨B2, 0, none⟩)] (enters_of Tryz.func70 (by kernel_rfl) rfl) g 0 l.length cap l W
    (fun V x hb => (clo70 B1 B2 home name x V ((hb.cell (p := ⟨B1, 0, none⟩) (World.block_lt_of_cell? W _ h1)).trans h1) ((hb.cell (p := ⟨B2, 0, none⟩) (World.block_lt_of_cell? W _ h2)).trans h2)).mono fun e w' h => ⟨h.1, below_step hb (Grew.below h.2)⟩)
    (Nat.le_refl _) (by omega) hg (fun j hj i v hv => by
      have hi : i < 7 := (List.getElem?_eq_some_iff.mp hv).1
      have := (Go.Sort.HoldsK.cell hH (i := j) (c := i) (by simpa using hj) hi).1
      rw [this]
      have e6 : (l.toArray)[j]! = l[j]! := by simp
      rw [e6, getElem!_pos (enc26 l[j]!) i (by rw [enc26_len]; exact hi)]
      rw [← hv]
      exact (List.getElem?_eq_getElem _).symm)
  rw [List.take_length] at hcon
  exact hcon
theorem run_clear26 (w : World) (b o n c : Nat) (hn : 0 < n) (hc : ∀ j, j < n * 7 → (w.cell? ⟨b, o + j, none⟩).isSome = true) (hf : ∀ j, j < n * 7 → w.frozen? ⟨b, o + j, none⟩ = false) :
    ∃ vs : List Value, ∀ ty, (Builtin.clear_ #[22] ty #[.slice (some ⟨b, o, none⟩) n c]).run Tryz.prog w = .ok (.tuple #[]) (w.setCells b o vs) := by
  have hv : ∀ w, (zeroValue 26).run Tryz.prog w = .ok (.agg #[(.int .i64 0), (.string ⟨#[]⟩), (.int .i64 0), (.int .i64 0), (.int .i64 0), (.int .i64 0), (.bool false)]) w := fun w => by kernel_rfl
  let vs : List Value := (Builtin.zeroCells #[(.int .i64 0), (.string ⟨#[]⟩), (.int .i64 0), (.int .i64 0), (.int .i64 0), (.int .i64 0), (.bool false)] n).toList
  have hl : vs.length = n * 7 := by simp [vs, Builtin.zeroCells]
  have h1 : ∀ v ∈ vs, v.oneCell' = true := by
    intro v hv
    simp [vs, Builtin.zeroCells] at hv
    obtain ⟨a, _, rfl⟩ := hv
    have hm : a % 7 < 7 := Nat.mod_lt _ (by omega)
    generalize a % 7 = r at hm
    have : r = 0 ∨ r = 1 ∨ r = 2 ∨ r = 3 ∨ r = 4 ∨ r = 5 ∨ r = 6 := by omega
    rcases this with rfl | rfl | rfl | rfl | rfl | rfl | rfl <;> rfl
  have hst := run_storeCells_cells (P := Tryz.prog) b o vs 0 w (by simpa [hl] using hc) (by simpa [hl] using hf) h1
  simp only [Nat.add_zero] at hst
  refine ⟨vs, fun ty => ?_⟩
  obtain ⟨m, rfl⟩ : ∃ m, n = m + 1 := ⟨n - 1, by omega⟩
  simp [Builtin.clear_, run_underlying Tryz.underlying22, hv, Value.cells]
  rw [show (Builtin.zeroCells #[(.int .i64 0), (.string ⟨#[]⟩), (.int .i64 0), (.int .i64 0), (.int .i64 0), (.int .i64 0), (.bool false)] (m + 1)).toList = vs from rfl, hst]
  rfl
theorem old_cell0 {w w' : World} (a : Addr) (h : w'.heap[a.block]? = w.heap[a.block]?) : w'.cell? a = w.cell? a := by
  unfold World.cell?
  rw [h]
theorem holds_block {w w' : World} {g : Nat} {d : Array S26} (h : HoldsK enc26 7 w g 0 d) (e : w'.heap[g]? = w.heap[g]?) : HoldsK enc26 7 w' g 0 d := by
  intro t ht
  obtain ⟨h1, h2⟩ := h t ht
  unfold World.cell? World.frozen? at *
  rw [e]
  exact ⟨h1, h2⟩
theorem swk_alloc {α : Type} [Inhabited α] {enc : α → List Value} {k : Nat} {w0 W : World} {blk off : Nat} {dk : Array α} (h : SWK enc k w0 blk off dk W) (o : Obj) : SWK enc k w0 blk off dk (W.alloc o) := h.alloc o
theorem cell_sb {W : World} {a : Addr} {v : Value} (o : Obj) (h : W.cell? a = some v) : (W.alloc o).cell? a = some v := ((Grew.refl W).alloc o).cell h
theorem idxFrom (p : S26 → Bool) : ∀ (l : List S26) (i : Nat), (Lib.idxByFrom (fun _ y => p y) default l i = -1 ∧ ∀ x ∈ l, p x = false) ∨ ∃ k, k < l.length ∧ Lib.idxByFrom (fun _ y => p y) default l i = ((i + k : Nat) : Int) ∧ p l[k]! = true ∧ ∀ j, j < k → p l[j]! = false
  | [], _ => .inl ⟨rfl, fun _ h => by cases h⟩
  | y :: r, i => by
    cases h : p y with
    | true => exact .inr ⟨0, by simp, by simp [Lib.idxByFrom, h], by simpa using h, fun j hj => absurd hj (Nat.not_lt_zero _)⟩
    | false =>
      have hs : Lib.idxByFrom (fun _ y => p y) default (y :: r) i = Lib.idxByFrom (fun _ y => p y) default r (i + 1) := by simp [Lib.idxByFrom, h]
      rw [hs]
      rcases idxFrom p r (i + 1) with ⟨e, ha⟩ | ⟨k, hk, e, ht, ha⟩
      · exact .inl ⟨e, fun x hx => by rcases List.mem_cons.mp hx with rfl | hx; exact h; exact ha x hx⟩
      · refine .inr ⟨k + 1, by simpa using hk, by rw [e]; congr 1; omega, by simpa using ht, fun j hj => ?_⟩
        cases j with
        | zero => simpa using h
        | succ j => simpa using ha j (by omega)
theorem idxAt (p : S26 → Bool) (l : List S26) : (Lib.idxBy (fun _ y => p y) l default = -1 ∧ ∀ x ∈ l, p x = false) ∨ ∃ k, k < l.length ∧ Lib.idxBy (fun _ y => p y) l default = ((k : Nat) : Int) ∧ p l[k]! = true ∧ ∀ j, j < k → p l[j]! = false := by
  have := idxFrom p l 0
  simpa [Lib.idxBy] using this
/-- The row's element i, told cell by cell. -/
theorem row_atFa {w1 W : World} {g : Nat} {dk d : Array S26} (S : SWK enc26 7 w1 g 0 dk W) (hg : g < w1.heap.size) (hH : HoldsK enc26 7 w1 g 0 d) (hs : dk.size = d.size) (i : Nat) (hi : i < dk.size) :
    ∃ o : S26, o = dk[i]! ∧ W.cell? ⟨g, i * 7, none⟩ = some (.int .i64 o.f0) ∧ W.cell? ⟨g, i * 7 + 1, none⟩ = some (.string o.f1) ∧ W.cell? ⟨g, i * 7 + 2, none⟩ = some (.int .i64 o.f2) ∧ W.cell? ⟨g, i * 7 + 3, none⟩ = some (.int .i64 o.f3.f0) ∧ W.cell? ⟨g, i * 7 + 4, none⟩ = some (.int .i64 o.f3.f1) ∧ W.cell? ⟨g, i * 7 + 5, none⟩ = some (.int .i64 o.f4) ∧ W.cell? ⟨g, i * 7 + 6, none⟩ = some (.bool o.f5) ∧ W.frozen? ⟨g, i * 7, none⟩ = false ∧ W.frozen? ⟨g, i * 7 + 1, none⟩ = false ∧ W.frozen? ⟨g, i * 7 + 2, none⟩ = false ∧ W.frozen? ⟨g, i * 7 + 3, none⟩ = false ∧ W.frozen? ⟨g, i * 7 + 4, none⟩ = false ∧ W.frozen? ⟨g, i * 7 + 5, none⟩ = false ∧ W.frozen? ⟨g, i * 7 + 6, none⟩ = false := by
  have hh := S.holds hg hH hs
  have ha : ∀ c, c < 7 → W.cell? ⟨g, i * 7 + c, none⟩ = some (enc26 dk[i]!)[c]! ∧ W.frozen? ⟨g, i * 7 + c, none⟩ = false := fun c hc => by
    have := Go.Sort.HoldsK.cell hh (i := i) (c := c) hi hc
    rwa [Nat.zero_add] at this
  generalize dk[i]! = o at ha
  exact ⟨o, rfl, (ha 0 (by omega)).1, (ha 1 (by omega)).1, (ha 2 (by omega)).1, (ha 3 (by omega)).1, (ha 4 (by omega)).1, (ha 5 (by omega)).1, (ha 6 (by omega)).1, (ha 0 (by omega)).2, (ha 1 (by omega)).2, (ha 2 (by omega)).2, (ha 3 (by omega)).2, (ha 4 (by omega)).2, (ha 5 (by omega)).2, (ha 6 (by omega)).2⟩
theorem below_sets {B : Nat} {w : World} (g : Nat) : ∀ (vs : List Value) (o : Nat) (X : World), Below B w X → B ≤ g → Below B w (X.setCells g o vs)
  | [], _, _, h, _ => h
  | v :: r, o, X, h, hb => below_sets g r (o + 1) _ (h.setCell (p := ⟨g, o, none⟩) hb v) hb
set_option maxHeartbeats 8000000 in
set_option maxRecDepth 100000 in
theorem del69 (B1 B2 g cap : Nat) (home : Int) (name : ByteArray) (l : List S26) (W : World) (hH : HoldsK enc26 7 W g 0 l.toArray) (hg : g < W.heap.size) (h1 : W.cell? ⟨B1, 0, none⟩ = some (.int .i64 home)) (h2 : W.cell? ⟨B2, 0, none⟩ = some (.string name)) (n1 : B1 ≠ g) (n2 : B2 ≠ g) (hlen : l.length < 4398046511104) (hcap : l.length ≤ cap) :
    Calls Tryz.prog 69 #[.slice (some ⟨g, 0, none⟩) l.length cap, .func (.func 70) #[] #[.pointer (some ⟨B1, 0, none⟩), .pointer (some ⟨B2, 0, none⟩)]] W fun e w' => e = .returned (.slice (some ⟨g, 0, none⟩) (l.filter (ownB home name)).length cap) ∧ HoldsK enc26 7 w' g 0 (l.filter (ownB home name)).toArray ∧ Below g W w' := by
  have hIF := idx63 B1 B2 g cap home name l W hH hg h1 h2 hlen
  have l1 := World.block_lt_of_cell? W _ h1
  have l2 := World.block_lt_of_cell? W _ h2
  obtain ⟨kp, HK⟩ : ∃ kp : Nat → Bool, Hid (kp = fun j => ownB home name (l.toArray)[j]!) := ⟨_, rfl⟩
  have hfil : l.filter (ownB home name) = keptUpTo kp l.toArray l.toArray.size := by rw [HK.out]; exact (keptUpTo_filter (ownB home name) l.toArray).symm
  have HH := Aside0.mk hH
  have H1 := Aside0.mk h1
  have H2 := Aside0.mk h2
  clear hH h1 h2
  rcases idxAt (fun y => !(ownB home name y)) l with ⟨e1, hall⟩ | ⟨k0, hk0, e1, ht, hall⟩
  · rw [e1] at hIF
    have e3 : l.filter (ownB home name) = l := by
      rw [List.filter_eq_self]
      intro x hx
      have := hall x hx
      simpa using this
    go_enter Tryz.func69, Tryz.ntmps69
    go_wp2_with (go_at_call 63; refine hIF.mono ?_; rintro e w1 ⟨rfl, hb⟩)
    go_ret
    rw [e3]
    exact ⟨rfl, holds_block HH.out (hb.block g hg), hb.mono (by omega)⟩
  · rw [e1] at hIF
    rw [hfil]
    go_enter Tryz.func69, Tryz.ntmps69
    go_wp2_with (go_at_call 63; refine hIF.mono ?_; rintro e w1 ⟨rfl, hb⟩)
    have hH1 : HoldsK enc26 7 w1 g 0 l.toArray := holds_block HH.out (hb.block g hg)
    have hg1 : g < w1.heap.size := Nat.lt_of_lt_of_le hg hb.size
    have HH1 := Aside0.mk hH1
    have R1 : RowK enc26 7 w1 g 0 l.toArray := ⟨enc26_len, enc26_one, hH1, hg1⟩
    have HR1 := Aside0.mk R1
    have HB := Aside0.mk hb
    have K1 := Aside0.mk ((hb.cell (p := ⟨B1, 0, none⟩) l1).trans H1.out)
    have K2 := Aside0.mk ((hb.cell (p := ⟨B2, 0, none⟩) l2).trans H2.out)
    have hkeep : ∀ j, j < k0 → kp j = true := fun j hj => by
      have := hall j hj
      rw [HK.out]
      simpa using this
    have hdrop : kp k0 = false := by
      rw [HK.out]
      simpa using ht
    have I0 := Aside0.mk (KeptInv.start (d := l.toArray) hkeep hdrop)
    clear hH1 R1 hb hkeep hdrop hall ht e1 hIF hfil
    have L1 : B1 < w1.heap.size := World.block_lt_of_cell? w1 _ K1.out
    have L2 : B2 < w1.heap.size := World.block_lt_of_cell? w1 _ K2.out
    go_loopg [5, 6, 7] l.length (fun gg s5 s6 _ wr => ∃ (i j : Nat) (dk : Array S26), s5 = .int .i64 i ∧ s6 = .int .i64 j ∧ j ≤ l.length ∧ l.length - j ≤ gg ∧ Aside0 (SWK enc26 7 w1 g 0 dk wr) ∧ Aside0 (KeptInv kp l.toArray j i dk))
    case atStart => exact ⟨k0, k0 + 1, l.toArray, rfl, by go_num, by omega, by omega, ⟨SWK.start HH1.out⟩, I0⟩
    case round =>
      obtain ⟨i, j, dk, rfl, rfl, hjd, hgg, HS, HI⟩ := hrel
      have hij := HI.out.lt
      have hds : dk.size = l.length := by rw [HI.out.size]; simp
      by_cases hlt : j < l.length
      · have hltz : (j : Int) < (l.length : Int) := by omega
        obtain ⟨u, eu, c0, c1, c2, c3, c4, c5, c6, _⟩ := row_atFa HS.out hg1 HH1.out (by rw [hds]; simp) j (by omega)
        have hu := Aside0.mk (show dk[j]! = u ∧ (l.toArray)[j]! = u from ⟨eu.symm, by rw [eu]; exact (HI.out.high j (by omega)).symm⟩)
        clear eu
        have M1 := Aside0.mk (cell_sb (.cells (vals26 u) 26) ((old_cell0 ⟨B1, 0, none⟩ (swk_far HS.out B1 L1 n1)).trans K1.out))
        have M2 := Aside0.mk (cell_sb (.cells (vals26 u) 26) ((old_cell0 ⟨B2, 0, none⟩ (swk_far HS.out B2 L2 n2)).trans K2.out))
        have hcall := clo70 B1 B2 home name u (wr.alloc (.cells (vals26 u) 26)) M1.out M2.out
        cases hq : ownB home name u with
        | false =>
          rw [hq] at hcall
          go_wp2_with (go_at_call 70; refine hcall.mono ?_; rintro e w5 ⟨rfl, hg5⟩)
          go_roundg (l.length - (j + 1))
          case measure => omega
          case rel => exact ⟨i, j + 1, dk, rfl, by go_num, by omega, Nat.le_refl _, ⟨swk_grew (swk_alloc HS.out _) hg5⟩, ⟨HI.out.skip (by rw [HK.out]; show ownB home name _ = false; rw [hu.out.2, hq])⟩⟩
        | true =>
          rw [hq] at hcall
          go_wp2_with (go_at_call 70; refine hcall.mono ?_; rintro e w5 ⟨rfl, hg5⟩; have z0 := hg5.cell (p := ⟨wr.heap.size, 0, none⟩) (v := .int .i64 u.f0) (by go_simp); have z1 := hg5.cell (p := ⟨wr.heap.size, 1, none⟩) (v := .string u.f1) (by go_simp); have z2 := hg5.cell (p := ⟨wr.heap.size, 2, none⟩) (v := .int .i64 u.f2) (by go_simp); have z3 := hg5.cell (p := ⟨wr.heap.size, 3, none⟩) (v := .int .i64 u.f3.f0) (by go_simp); have z4 := hg5.cell (p := ⟨wr.heap.size, 4, none⟩) (v := .int .i64 u.f3.f1) (by go_simp); have z5 := hg5.cell (p := ⟨wr.heap.size, 5, none⟩) (v := .int .i64 u.f4) (by go_simp); have z6 := hg5.cell (p := ⟨wr.heap.size, 6, none⟩) (v := .bool u.f5) (by go_simp); have S5 := Aside0.mk (swk_grew (swk_alloc HS.out (.cells (vals26 u) 26)) hg5); obtain ⟨o, _, p0, p1, p2, p3, p4, p5, p6, q0, q1, q2, q3, q4, q5, q6⟩ := row_atFa S5.out hg1 HH1.out (by rw [hds]; simp) i (by omega))
          go_roundg (l.length - (j + 1))
          case measure => omega
          case rel =>
            refine ⟨i + 1, j + 1, dk.setIfInBounds i u, by go_num, by go_num, by omega, Nat.le_refl _, ⟨?_⟩, ⟨?_⟩⟩
            · have := swk_put S5.out enc26_len hg1 i (by omega) u
              rw [Nat.zero_add] at this
              exact this
            · have := HI.out.keep (by simpa using hlt) (by rw [HK.out]; show ownB home name _ = true; rw [hu.out.2, hq])
              rwa [hu.out.2] at this
      · obtain rfl : j = l.length := by omega
        have hltz : ¬ (l.length : Int) < (l.length : Int) := by omega
        have hin : 0 < l.length - i := by omega
        have hh := HS.out.holds hg1 HH1.out (by rw [hds]; simp)
        have hcell : ∀ c, c < (l.length - i) * 7 → wr.cell? ⟨g, i * 7 + c, none⟩ = some ((flatK enc26 7 dk)[i * 7 + c]!) ∧ wr.frozen? ⟨g, i * 7 + c, none⟩ = false := fun c hc => by
          have := hh (i * 7 + c) (by rw [size_flatK, hds]; omega)
          rwa [Nat.zero_add] at this
        obtain ⟨vs, hcl⟩ := run_clear26 wr g (i * 7) (l.length - i) (cap - i) hin (fun c hc => by rw [(hcell c hc).1]; rfl) (fun c hc => (hcell c hc).2)
        have hh' := Aside0.mk hh
        clear hcell hh
        go_wp2
        go_ret
        refine ⟨by rw [HI.out.len]; rfl, ?_, ?_⟩
        · intro t ht
          rw [size_flatK, List.size_toArray, HI.out.len] at ht
          have hq : t / 7 < i := Nat.div_lt_of_lt_mul (by rw [Nat.mul_comm]; exact ht)
          obtain ⟨a1, a2⟩ := hh'.out t (by rw [size_flatK, hds]; omega)
          have e0 : (flatK enc26 7 (keptUpTo kp l.toArray l.length).toArray)[t]! = (flatK enc26 7 dk)[t]! := by
            rw [get_flatK _ _ _ _ (by rw [List.size_toArray, HI.out.len]; exact ht), get_flatK _ _ _ _ (by rw [hds]; omega)]
            have := HI.out.low (t / 7) hq
            have e1 : ((keptUpTo kp l.toArray l.length).toArray)[t / 7]! = dk[t / 7]! := by
              rw [getElem!_def, List.getElem?_toArray, this]
            rw [e1]
          rw [e0]
          rw [Nat.zero_add] at a1 a2 ⊢
          refine ⟨?_, by rw [World.frozen?_setCells]; exact a2⟩
          rw [World.cell?_setCells_out g _ _ _ _ (fun _ _ => Or.inl (by show t < i * 7; exact ht))]
          exact a1
        · exact below_sets g _ _ _ ((HB.out.mono (by omega)).trans (swk_below HS.out hg1)) (Nat.le_refl _)
end
section
open Go.Sort (grow alloc_eq_grow grow_grow Holds putRow flatK HoldsK putRowK setMany get_setMany size_setMany get_flatK size_flatK ext_get! blk_iff)
open Go.Proofs.YthcjocojngochaaGreatDoor.Pure (cmpR cmpR_weak cmpR_zero ltR sortR sortR_one cmpI cmpL cmpG thenC)
set_option maxHeartbeats 8000000 in
set_option maxRecDepth 100000 in
theorem clone49 (A0 : Option Addr) (c0 : Nat) (l0 : List S26) (w : World) (hr0 : Kd.C k26 w A0 l0.length l0) (hc0 : l0.length ≤ c0) (hlen : l0.length < 4294967296) :
    Calls Tryz.prog 49 #[.slice A0 l0.length c0] w fun e w' => ∃ v0_ : Value, e = .returned (v0_) ∧ Kd.R k26 26 w' w.heap.size (fun _ => True) v0_ l0 ∧ Below w.heap.size w w' := by
  have q22 : ∀ (w : World) (a : Option Addr) (n c n' c' : Nat), (binOp .eql 22 (.slice a n c) (.slice none n' c')).run Tryz.prog w = .ok (.bool a.isNone) w := fun w a n c n' c' => Lib.run_eql_slice_nil w _ _ a n c n' c' Tryz.underlying22
  have HR0 := Aside0.mk hr0
  have HC0 := Aside0.mk hc0
  have HL := Aside0.mk hlen
  clear hr0 hc0 hlen
  cases A0 with
  | none =>
    have h0 : l0 = [] := by
      cases l0 with
      | nil => rfl
      | cons x t =>
        obtain ⟨ad, e, _⟩ := at_T26 HR0.out 0 (by omega) (by simp)
        cases e
    subst h0
    go_enter Tryz.func49, Tryz.ntmps49
    go_wp2
    go_ret
    exact ⟨_, rfl, Kd.R_nil _ _ _ _ _, Below.refl _ _⟩
  | some ad =>
    go_enter Tryz.func49, Tryz.ntmps49
    go_wp2_with (first
      | ((with_reducible refine gate_dst (N := 5) rfl ?_); refine Kd.R_lit k26 (w0 := w) w.heap.size 26 ?hg (N := 5) ?hd (xs := ([] : List S26)) (inner := []) (ok := fun _ => True) (okp := fun _ => True) ?hr ?hp (fun _ hk => hk) trivial (Below.refl _ _) (Nat.le_refl _) (by simp) ?_; (case hd => rfl); (case hg => rfl); (case hr => first | (go_simp; done) | (go_simp; rfl)); (case hp => exact (Reps.none _ _)); intro v5 w5 ho hb hg_ hnew_; have HO := Aside0.mk ho; have HB := Aside0.mk hb; clear ho hb hg_ hnew_)
      | ((with_reducible refine gate_builtin (b := .append) (xs := #[.tmp 5, .tmp 6]) rfl ?_); at_builtin; refine Kd.R_append_rows k26 (w0 := w) w.heap.size rfl (.tmp 5) (.tmp 6) 22 26 (.agg #[(.int .i64 0), (.string ⟨#[]⟩), (.int .i64 0), (.int .i64 0), (.int .i64 0), (.int .i64 0), (.bool false)]) 64 rfl Tryz.underlying22 info26 rfl (by decide) (by omega) v5 [] l0 _ _ _ (fun _ => True) (fun _ => False) rfl rfl HO.out (Kd.C_below HR0.out HB.out) (fun _ _ h => h) (fun _ h => h.elim) (fun _ _ => trivial) HB.out HB.out.size (by have := HL.out; simp; omega) ?_; intro v1 w6 ho hb hg hat))
    go_ret
    exact ⟨_, rfl, ho, hb⟩
/-- A row of the call's own, as the library's walks want it. -/
theorem holds_of_R {w : World} {base : Nat} {v : Value} {l : List S26} (h : Kd.R k26 26 w base (fun _ => True) v l) :
    (l = [] ∧ ∃ p cap, v = .slice p 0 cap) ∨ (0 < l.length ∧ ∃ g cap, v = .slice (some ⟨g, 0, none⟩) l.length cap ∧ l.length ≤ cap ∧ HoldsK enc26 7 w g 0 l.toArray ∧ g < w.heap.size ∧ base ≤ g) := by
  obtain ⟨inner, ho⟩ := Kd.R_own h
  obtain ⟨A, c, hv, hlc, hC⟩ := Kd.R_reads h
  by_cases h0 : l = []
  · subst h0
    exact .inl ⟨rfl, A, c, hv⟩
  · have hpos : 0 < l.length := List.length_pos_iff.mpr h0
    rcases ho.2 with ⟨_, h0'⟩ | ⟨g, cap, cur, hv2, hg, hh, hcap, hmax, hcs, htake⟩
    · omega
    · obtain ⟨b, off, eA, hb, hc⟩ := row26 hC hpos
      rw [hv2] at hv
      simp only [Value.slice.injEq] at hv
      obtain ⟨e1, _, e3⟩ := hv
      rw [eA] at e1
      have e2 : (⟨g, 0, none⟩ : Addr) = ⟨b, off, none⟩ := Option.some.inj e1
      injection e2 with e4 e5
      subst e4 e5
      refine .inr ⟨hpos, g, cap, hv2, by omega, ?_, hb, hg⟩
      intro t ht
      have ht' : t < l.length * 7 := by simpa using ht
      rw [get_flatK _ _ _ _ (by simpa using ht'), Nat.zero_add]
      have hq : t / 7 < l.length := Nat.div_lt_of_lt_mul (by rw [Nat.mul_comm]; exact ht')
      have hm : t % 7 < 7 := Nat.mod_lt _ (by omega)
      have e6 : (l.toArray)[t / 7]! = l[t / 7]! := by simp
      refine ⟨?_, by simp [World.frozen?, hh]⟩
      have := hc (t / 7) hq (t % 7) ((enc26 l[t / 7]!)[t % 7]!) (by rw [getElem!_pos (enc26 l[t / 7]!) (t % 7) (by rw [enc26_len]; exact hm)]; exact List.getElem?_eq_getElem _)
      rw [e6]
      rw [show 0 + t / 7 * 7 + t % 7 = t by omega] at this
      exact this
theorem row_of_holds26 {w : World} {g : Nat} {d : Array S26} (h : HoldsK enc26 7 w g 0 d) (hs : d.size ≤ 9223372036854775807) : Kd.C k26 w (some ⟨g, 0, none⟩) d.toList.length d.toList := by
  refine ⟨rfl, by simpa using hs, fun _ => ⟨_, rfl, fun j p hp => ⟨enc26 p, rfl, k26_mk w p, fun i u hu => ?_⟩⟩⟩
  have hj : j < d.size := by
    have := (List.getElem?_eq_some_iff.mp hp).1
    simpa using this
  have ep : d[j]! = p := by
    have := (List.getElem?_eq_some_iff.mp hp).2
    rw [getElem!_pos d j hj, ← this]
    simp
  have hi : i < 7 := (List.getElem?_eq_some_iff.mp hu).1
  have hc := (h (j * 7 + i) (by rw [size_flatK]; omega)).1
  rw [get_flatK _ _ _ _ (by omega), Nat.zero_add, show (j * 7 + i) / 7 = j by omega, show (j * 7 + i) % 7 = i by omega, ep] at hc
  rw [show k26.sz = 7 from rfl, add_plain, hc]
  have := (List.getElem?_eq_some_iff.mp hu).2
  rw [← this]
  show some (id (enc26 p)[i]!) = _
  rw [getElem!_pos (enc26 p) i (by rw [enc26_len]; exact hi)]
  rfl
/-! ### the sort -/
theorem cmpL_vals : ∀ l m : List Nat, cmpL l m = -1 ∨ cmpL l m = 0 ∨ cmpL l m = 1
  | [], [] => .inr (.inl rfl)
  | [], _ :: _ => .inl rfl
  | _ :: _, [] => .inr (.inr rfl)
  | a :: l, b :: m => by
    unfold cmpL
    have := cmpL_vals l m
    (repeat' split) <;> simp_all
theorem cmp_same (x y : S26) : first7 (Lib.compareInt x.f4 y.f4) (Lib.compareInt x.f0 y.f0) (cmpS x.f1 y.f1) (Lib.compareInt x.f3.f0 y.f3.f0) (Lib.compareInt x.f3.f1 y.f3.f1) (Lib.compareInt x.f2 y.f2) (cmpB x.f5 y.f5) = cmpR x y := by
  have hs : cmpS x.f1 y.f1 = cmpL (x.f1.toList.map UInt8.toNat) (y.f1.toList.map UInt8.toNat) := by
    have h1 := Pure.cmpL_less x.f1.toList y.f1.toList
    unfold cmpS
    rw [h1]
    by_cases h2 : cmpL (x.f1.toList.map UInt8.toNat) (y.f1.toList.map UInt8.toNat) < 0
    · rw [decide_eq_true h2]
      rcases cmpL_vals (x.f1.toList.map UInt8.toNat) (y.f1.toList.map UInt8.toNat) with e | e | e <;> rw [e] at h2 ⊢ <;> first | rfl | omega
    · rw [decide_eq_false h2]
      by_cases h3 : x.f1.toList = y.f1.toList
      · rw [h3, Pure.cmpL_refl]
        simp
      · have h4 : cmpL (x.f1.toList.map UInt8.toNat) (y.f1.toList.map UInt8.toNat) ≠ 0 := fun e => h3 (Pure.nat_inj _ _ (Pure.cmpL_zero _ _ e))
        have h5 : (x.f1.toList == y.f1.toList) = false := by simpa using h3
        rw [h5]
        rcases cmpL_vals (x.f1.toList.map UInt8.toNat) (y.f1.toList.map UInt8.toNat) with e | e | e
        · rw [e] at h2; omega
        · exact absurd e h4
        · rw [e]; rfl
  have hb : cmpB x.f5 y.f5 = cmpG x.f5 y.f5 := by cases x.f5 <;> cases y.f5 <;> rfl
  rw [hs, hb]
  rfl
theorem swoR : Go.Sort.SWO (ltOf cmpR) where
  irrefl x := by
    have := cmpR_weak.refl x
    unfold ltOf
    simp [this]
  trans x y z h1 h2 := by
    unfold ltOf at *
    simp only [decide_eq_true_eq] at *
    exact cmpR_weak.tra x y z (by omega) h2
  ntrans x y z h1 h2 := by
    unfold ltOf at *
    simp only [decide_eq_false_iff_not] at *
    intro h3
    rcases Int.lt_trichotomy (cmpR z y) 0 with h4 | h4 | h4
    · exact h1 (cmpR_weak.tra x z y (by omega) h4)
    · have := cmpR_zero _ _ h4
      subst this
      exact h1 h3
    · have := cmpR_weak.anti' _ _ h4
      exact h2 this
theorem sort50 (g cap : Nat) (l : List S26) (W : World) (hH : HoldsK enc26 7 W g 0 l.toArray) (hg : g < W.heap.size) (hlen : l.length < 4398046511104) :
    Calls Tryz.prog 50 #[.slice (some ⟨g, 0, none⟩) l.length cap, .func (.func 51) #[] #[]] W fun e w' => e = .returned (.tuple #[]) ∧ (∀ V, V.heap[g]? = w'.heap[g]? → Kd.C k26 V (some ⟨g, 0, none⟩) (sortR l).length (sortR l)) ∧ Below g W w' := by
  have hcmp : CmpLays Tryz.prog 51 #[] enc26 7 cmpR g 0 l.toArray.size W := by
    intro m os dk hdk x y
    refine (cmp51 x y _).mono ?_
    rintro e w' ⟨rfl, q, os', rfl⟩
    rw [cmp_same]
    exact ⟨rfl, q, os', rfl⟩
  have hcon := AnyQ.slices_SortFunc Tryz.laySortR 7 Tryz.isAgg26 Tryz.sizeOf26 enc26 enc26_len enc26_one cmpR swoR 51 #[] g 0 cap l.toArray W (enters_of Tryz.func51 (by kernel_rfl) rfl) hcmp hH hg (by simp; omega)
  refine hcon.mono ?_
  rintro e w' ⟨rfl, d', n, os, hp, hs, rfl⟩
  have hsz : d'.size = l.length := by rw [hp.1]; simp
  have hpm : d'.toList.Perm l := by
    have := hp.2.2
    rw [← hp.1, Array.extract_size, hp.1] at this
    simpa using this
  have hup : Pure.Up d'.toList := by
    rw [Pure.Up, List.pairwise_iff_getElem]
    intro i j hi hj hij
    have := hs i j (Nat.zero_le _) hij (by rw [List.size_toArray, ← hsz]; simpa using hj)
    rw [getElem!_pos d' i (by simpa using hi), getElem!_pos d' j (by simpa using hj)] at this
    unfold ltOf at this
    simpa [ltR] using this
  have e1 := sortR_one l d'.toList hpm hup
  have S : SWK enc26 7 W g 0 d' (sortWorldK enc26 7 W g 0 n d' os) := ⟨n, os, rfl⟩
  have hh := S.holds hg hH (by rw [hsz]; simp)
  refine ⟨rfl, fun V hV => ?_, swk_below S hg⟩
  have hC := row_of_holds26 (holds_block hh hV) (by rw [hsz]; omega)
  rw [e1] at hC
  exact hC
end

theorem home64 (n : Int) (W : World) : Calls Tryz.prog 64 #[.int .i64 n] W fun e w' => e = .returned (.bool (decide (1 ≤ n) && decide (n ≤ 64))) ∧ ∃ m, w' = W.drewN m :=
  (facts_isHome.calls n _ W (home_f n)).mono fun _ _ h => ⟨h.1, h.2.out⟩
theorem name65 (a : ByteArray) (W : World) : Calls Tryz.prog 65 #[.string a] W fun e w' => e = .returned (.bool (nameB a)) ∧ Below W.heap.size W w' := facts_isName.calls a _ W (name_f a)
theorem day66 (n : Int) (W : World) : Calls Tryz.prog 66 #[.int .i64 n] W fun e w' => e = .returned (.bool (dayB n)) ∧ ∃ m, w' = W.drewN m :=
  (facts_isDay.calls n _ W (day_f n)).mono fun _ _ h => ⟨h.1, h.2.out⟩
theorem valid11V (A0 : Option Addr) (c0 : Nat) (l0 : List S26) (w : World) (hr0 : Kd.C k26 w A0 l0.length l0) (hlen : l0.length < 4398046511104) :
    Calls Tryz.prog 11 #[.slice A0 l0.length c0] w fun e w' => e = .returned (.bool (validB l0)) ∧ Below w.heap.size w w' := valid11 A0 c0 l0 w hr0 hlen
section
open Go.Sort (grow alloc_eq_grow grow_grow Holds putRow flatK HoldsK putRowK setMany get_setMany size_setMany get_flatK size_flatK ext_get! blk_iff)
set_option maxHeartbeats 1000000 in
theorem clo68 (n : Int) (W : World) : FnGives Tryz.prog 68 #[] #[.int .i64 n] (.bool (!dayB n)) W := by
  unfold FnGives
  go_enter Tryz.func68, Tryz.ntmps68
  go_wp2_with (go_at_call 66; refine (day66 _ _).mono ?_; rintro e w' ⟨rfl, m, rfl⟩)
  go_ret
  exact ⟨rfl, _, rfl⟩
theorem contI (b cap : Nat) (ds : List Int) (w : World) (hd : ∀ j, j < ds.length → w.cell? ⟨b, 0 + j, none⟩ = some (.int .i64 ds[j]!)) (hl : ds.length ≤ 2) :
    Calls Tryz.prog 67 #[.slice (some ⟨b, 0, none⟩) ds.length cap, .func (.func 68) #[] #[]] w fun e w' => e = .returned (.bool (!(ds.all dayB))) ∧ ∃ q, w' = w.drewN q := by
  have hcon := AnyE.slices_ContainsFunc Tryz.layContI (Value.int .i64) (fun n => !dayB n) 68 #[] (enters_of Tryz.func68 (by kernel_rfl) rfl) b 0 ds.length cap ds w (fun W x hb => clo68 x W) (Nat.le_refl _) (by omega) hd
  rw [List.take_length] at hcon
  have ha : (ds.any fun n => !dayB n) = !(ds.all dayB) := by simp [List.all_eq_not_any_not]
  rw [ha] at hcon
  exact hcon
set_option maxHeartbeats 2000000 in
theorem sort50_none (p : Option Addr) (cap : Nat) (fv : Value) (W : World) : Calls Tryz.prog 50 #[.slice p 0 cap, fv] W fun e w' => e = .returned (.tuple #[]) ∧ w' = W := by
  have hins : ∀ W, Calls Tryz.prog 102 #[.slice p 0 cap, .int .i64 0, .int .i64 0, fv] W fun e w' => e = .returned (.tuple #[]) ∧ w' = W := by
    intro W
    go_enter Tryz.func102, Tryz.ntmps102
    go_wp2
    refine wp_loop_rounds 1 ?_
    rw [rounds_succ]
    go_wp2
    go_end0
    exact ⟨rfl, rfl⟩
  have HI := Lib.hid hins
  clear hins
  have hpdq : ∀ (lim : Int) W, Calls Tryz.prog 80 #[.slice p 0 cap, .int .i64 0, .int .i64 0, .int .i64 lim, fv] W fun e w' => e = .returned (.tuple #[]) ∧ w' = W := by
    intro lim W
    go_enter Tryz.func80, Tryz.ntmps80
    go_wp2
    refine wp_loop_rounds 1 ?_
    rw [rounds_succ]
    go_wp2_with (go_at_call 102; refine (HI.out _).mono ?_; rintro e w' ⟨rfl, rfl⟩)
    (try simp only [Exit.inBlock, Exit.then])
    refine bodyPost_ret (results_none rfl _ _ _) rfl ?_
    exact ⟨rfl, rfl⟩
  have HP := Lib.hid hpdq
  clear hpdq
  have hlen := Tryz.bits_Len 0 W (by omega) (by omega)
  have HL := Lib.hid hlen
  clear hlen
  go_enter Tryz.func50, Tryz.ntmps50
  go_wp2_with (first
    | (go_at_call 81; refine HL.out.mono ?_; rintro e w' ⟨rfl, rfl⟩)
    | (go_at_call 80; refine (HP.out _ _).mono ?_; rintro e w' ⟨rfl, rfl⟩))
  go_end0
  exact ⟨rfl, rfl⟩
set_option maxHeartbeats 1000000 in
theorem del69_none (p : Option Addr) (cap g : Nat) (cb : Array Value) (W : World) : Calls Tryz.prog 69 #[.slice p 0 cap, .func (.func g) #[] cb] W fun e w' => e = .returned (.slice p 0 cap) ∧ w' = W := by
  go_enter Tryz.func69, Tryz.ntmps69
  go_wp2_with (go_at_call 63; refine (idx63_none p cap g cb _).mono ?_; rintro e w' ⟨rfl, rfl⟩)
  go_ret
  exact ⟨rfl, rfl⟩
/-- A fact's own records, sorted: the three calls in a row. -/
theorem own_chain (n₀ B1 B2 : Nat) (home : Int) (name : ByteArray) (l : List S26) (v : Value) (W : World) (hR : Kd.R k26 26 W n₀ (fun _ => True) v l) (h1 : W.cell? ⟨B1, 0, none⟩ = some (.int .i64 home)) (h2 : W.cell? ⟨B2, 0, none⟩ = some (.string name)) (n1 : B1 < n₀) (n2 : B2 < n₀) (hlen : l.length < 4398046511104) :
    Calls Tryz.prog 69 #[v, .func (.func 70) #[] #[.pointer (some ⟨B1, 0, none⟩), .pointer (some ⟨B2, 0, none⟩)]] W fun e w' => ∃ A c, e = .returned (.slice A (ownS l home name).length c) ∧ Below n₀ W w' ∧ Calls Tryz.prog 50 #[.slice A (ownS l home name).length c, .func (.func 51) #[] #[]] w' fun e w2 => e = .returned (.tuple #[]) ∧ (∀ V, (∀ k, n₀ ≤ k → V.heap[k]? = w2.heap[k]?) → Kd.C k26 V A (ownS l home name).length (ownS l home name)) ∧ Below n₀ w' w2 := by
  have hs : (ownS l home name).length = (l.filter (ownB home name)).length := (Pure.sortR_perm _).length_eq
  rcases holds_of_R hR with ⟨rfl, p, cap, rfl⟩ | ⟨hpos, g, cap, rfl, hcap, hH, hg, hbg⟩
  · refine (del69_none p cap 70 _ W).mono ?_
    rintro e w' ⟨rfl, rfl⟩
    refine ⟨p, cap, rfl, Below.refl _ _, (sort50_none p cap _ _).mono ?_⟩
    rintro e w2 ⟨rfl, rfl⟩
    exact ⟨rfl, fun V _ => ⟨rfl, Nat.zero_le _, fun h => absurd h (Nat.lt_irrefl 0)⟩, Below.refl _ _⟩
  · refine (del69 B1 B2 g cap home name l W hH hg h1 h2 (by omega) (by omega) hlen hcap).mono ?_
    rintro e w' ⟨rfl, hH2, hb⟩
    rw [hs]
    refine ⟨some ⟨g, 0, none⟩, cap, rfl, hb.mono hbg, ?_⟩
    have hl2 : (l.filter (ownB home name)).length < 4398046511104 := Nat.lt_of_le_of_lt (List.length_filter_le _ _) hlen
    refine (sort50 g cap _ w' hH2 (Nat.lt_of_lt_of_le hg hb.size) hl2).mono ?_
    rintro e w2 ⟨rfl, hC, hb2⟩
    rw [← hs]
    exact ⟨rfl, fun V hV => hC V (hV g hbg), hb2.mono hbg⟩
theorem below_sets9 {n : Nat} {w X : World} (h : Below n w X) {b : Nat} (hb : n ≤ b) {v : Value} : Below n w (X.setCell ⟨b, 0, none⟩ v) := h.setCell (p := ⟨b, 0, none⟩) hb v
theorem froz_below {n : Nat} {W W' : World} (h : Below n W W') {b o : Nat} (hb : b < n) : W'.frozen? ⟨b, o, none⟩ = W.frozen? ⟨b, o, none⟩ := by
  unfold World.frozen?
  rw [h.block b hb]
theorem res35 (tmps : Array Value) (w : World) (b : Nat) (A : Option Addr) (n c : Nat) (h8 : tmps.getD 8 undef = .pointer (some ⟨b, 0, none⟩)) (hc : w.cell? ⟨b, 0, none⟩ = some (.slice A n c)) :
    (results Tryz.f35 tmps).run Tryz.prog w = .ok (.tuple #[.agg #[.slice A n c], tmps.getD 9 undef]) w := by
  rw [results_cell_tmp (p := 8) (ty := 55) (u := 9) rfl, h8]
  go_simp
set_option maxHeartbeats 8000000 in
set_option maxRecDepth 100000 in
theorem of35 (A0 : Option Addr) (c0 : Nat) (l0 : List S26) (home : Int) (name : ByteArray) (b dc : Nat) (ds : List Int) (w : World) (hr0 : Kd.C k26 w A0 l0.length l0) (hc0 : l0.length ≤ c0) (hlen : l0.length < 4398046511104) (hd : ∀ j, j < ds.length → w.cell? ⟨b, 0 + j, none⟩ = some (.int .i64 ds[j]!)) (hdl : ds.length ≤ 2) (hb : b < w.heap.size) :
    Calls Tryz.prog 35 #[.slice A0 l0.length c0, .int .i64 home, .string name, .slice (some ⟨b, 0, none⟩) ds.length dc] w fun e w' => Below w.heap.size w w' ∧
      ((argB l0 home name ds = true ∧ ∃ A c, e = .returned (.tuple #[.agg #[.slice A (ownS l0 home name).length c], .int .i64 0]) ∧ Kd.C k26 w' A (ownS l0 home name).length (ownS l0 home name)) ∨ (argB l0 home name ds = false ∧ e = .returned (.tuple #[.agg #[.slice none 0 0], .int .i64 1]))) := by
  have HR0 := Aside0.mk hr0
  have HC0 := Aside0.mk hc0
  have HD := Aside0.mk hd
  clear hr0 hc0 hd
  go_enter Tryz.func35, Tryz.ntmps35
  go_wp2_with fail
  obtain ⟨W1, hW1⟩ : ∃ w_ : World, w_ = (((w.alloc (Obj.cells #[Value.int IntKind.i64 home] 3)).alloc (Obj.cells #[Value.string name] 9)).alloc (Obj.cells #[Value.slice none 0 0] 55)) := ⟨_, rfl⟩
  have hsz : w.heap.size + 1 + 1 + 1 = W1.heap.size := by rw [hW1]; simp
  have hB1 : Below w.heap.size w W1 := by rw [hW1]; with_reducible repeat first | exact Below.refl _ _ | apply below_alloc
  have a1 : W1.cell? ⟨w.heap.size, 0, none⟩ = some (.int .i64 home) := by rw [hW1]; go_simp
  have a2 : W1.cell? ⟨w.heap.size + 1, 0, none⟩ = some (.string name) := by rw [hW1]; go_simp
  have a3 : W1.cell? ⟨w.heap.size + 1 + 1, 0, none⟩ = some (.slice none 0 0) := by rw [hW1]; go_simp
  have f3 : W1.frozen? ⟨w.heap.size + 1 + 1, 0, none⟩ = false := by rw [hW1]; go_simp
  rw [← hW1]
  clear hW1
  have A1 := Aside0.mk a1
  have A2 := Aside0.mk a2
  have A3 := Aside0.mk (And.intro a3 f3)
  have HB1 := Aside0.mk hB1
  clear a1 a2 a3 f3 hB1
  refine (valid11V A0 c0 l0 W1 (Kd.C_below HR0.out HB1.out) hlen).mono ?_
  rintro e w2 ⟨rfl, hb2⟩
  have HB2 := Aside0.mk hb2
  have s2 := hb2.size
  clear hb2
  have b1 := (HB2.out.cell (p := ⟨w.heap.size, 0, none⟩) (by show w.heap.size < _; omega)).trans A1.out
  have b3 := (HB2.out.cell (p := ⟨w.heap.size + 1 + 1, 0, none⟩) (by show w.heap.size + 1 + 1 < _; omega)).trans A3.out.1
  have g3 := (froz_below HB2.out (b := w.heap.size + 1 + 1) (o := 0) (by omega)).trans A3.out.2
  cases hv : validB l0 with
  | false =>
    go_wp2
    (try simp only [Exit.inBlock, Exit.then])
    refine bodyPost_ret (res35 _ _ _ none 0 0 rfl (World.cell?_setCell_same' _ _ _ (by simp [b3]))) rfl ?_
    exact ⟨below_sets9 (HB1.out.trans (HB2.out.mono (by omega))) (by omega), .inr ⟨by simp [argB, hv], rfl⟩⟩
  | true =>
    go_wp2_with fail
    refine (home64 home _).mono ?_
    rintro e w3 ⟨rfl, m, rfl⟩
    have b2 := (HB2.out.cell (p := ⟨w.heap.size + 1, 0, none⟩) (by show w.heap.size + 1 < _; omega)).trans A2.out
    cases hh : (decide (1 ≤ home) && decide (home ≤ 64)) with
    | false =>
      go_wp2
      (try simp only [Exit.inBlock, Exit.then])
      refine bodyPost_ret (res35 _ _ _ none 0 0 rfl (World.cell?_setCell_same' _ _ _ (by simp [b3]))) rfl ?_
      exact ⟨below_sets9 (pw_below_drewN (HB1.out.trans (HB2.out.mono (by omega))) _) (by omega), .inr ⟨by simp [argB, hh], rfl⟩⟩
    | true =>
      go_wp2_with fail
      refine (name65 name _).mono ?_
      rintro e w4 ⟨rfl, hb4⟩
      have hb4' : Below w2.heap.size w2 w4 := below_step (pw_below_drewN (Below.refl _ _) _) hb4
      have HB4 := Aside0.mk (HB2.out.trans (hb4'.mono (by omega)))
      have s4 := HB4.out.size
      clear hb4 hb4' b1 b2 b3 g3
      have b1 := (HB4.out.cell (p := ⟨w.heap.size, 0, none⟩) (by show w.heap.size < _; omega)).trans A1.out
      have b2 := (HB4.out.cell (p := ⟨w.heap.size + 1, 0, none⟩) (by show w.heap.size + 1 < _; omega)).trans A2.out
      have b3 := (HB4.out.cell (p := ⟨w.heap.size + 1 + 1, 0, none⟩) (by show w.heap.size + 1 + 1 < _; omega)).trans A3.out.1
      have g3 := (froz_below HB4.out (b := w.heap.size + 1 + 1) (o := 0) (by omega)).trans A3.out.2
      have HW4 := Aside0.mk (HB1.out.trans (HB4.out.mono (by omega)))
      cases hn : nameB name with
      | false =>
        go_wp2
        (try simp only [Exit.inBlock, Exit.then])
        refine bodyPost_ret (res35 _ _ _ none 0 0 rfl (World.cell?_setCell_same' _ _ _ (by simp [b3]))) rfl ?_
        exact ⟨below_sets9 HW4.out (by omega), .inr ⟨by simp [argB, hn], rfl⟩⟩
      | true =>
        go_wp2_with fail
        refine (contI b dc ds _ (fun j hj => (HW4.out.cell (p := ⟨b, 0 + j, none⟩) hb).trans (HD.out j hj)) hdl).mono ?_
        rintro e w5 ⟨rfl, q, rfl⟩
        cases hd : ds.all dayB with
        | false =>
          go_wp2
          (try simp only [Exit.inBlock, Exit.then])
          refine bodyPost_ret (res35 _ _ _ none 0 0 rfl (World.cell?_setCell_same' _ _ _ (by simp [b3]))) rfl ?_
          exact ⟨below_sets9 (pw_below_drewN HW4.out _) (by omega), .inr ⟨by simp [argB, hd], rfl⟩⟩
        | true =>
          go_wp2_with fail
          have h4 : l0.length ≤ 4000 := by
            have := hv
            unfold validB at this
            simp at this
            exact this.1
          have H4 := Aside0.mk HW4.out.size
          refine (clone49 A0 c0 l0 _ (Kd.C_below HR0.out (pw_below_drewN HW4.out _)) HC0.out (by omega)).mono ?_
          rintro e w6 ⟨v6, rfl, hR, hb6⟩
          have hb6' : Below w4.heap.size w4 w6 := below_step (pw_below_drewN (Below.refl _ _) _) hb6
          have c1 := (hb6'.cell (p := ⟨w.heap.size, 0, none⟩) (by show w.heap.size < _; omega)).trans b1
          have c2 := (hb6'.cell (p := ⟨w.heap.size + 1, 0, none⟩) (by show w.heap.size + 1 < _; omega)).trans b2
          have c3 := (hb6'.cell (p := ⟨w.heap.size + 1 + 1, 0, none⟩) (by show w.heap.size + 1 + 1 < _; omega)).trans b3
          have d3 := (froz_below hb6' (b := w.heap.size + 1 + 1) (o := 0) (by omega)).trans g3
          have C1 := Aside0.mk c1
          have C2 := Aside0.mk c2
          have C3 := Aside0.mk (And.intro c3 d3)
          have HR6 := Aside0.mk (show Kd.R k26 26 w6 w4.heap.size (fun _ => True) v6 l0 from hR)
          have HB6 := Aside0.mk (HW4.out.trans (hb6'.mono (by omega)))
          have s6 := hb6'.size
          clear c1 c2 c3 d3 hR hb6 hb6' b1 b2 b3 g3
          obtain ⟨A6, k6, e6⟩ := Kd.R_slice HR6.out
          subst e6
          go_wp2_with fail
          refine (own_chain w4.heap.size w.heap.size (w.heap.size + 1) home name l0 _ w6 HR6.out C1.out C2.out (by omega) (by omega) hlen).mono ?_
          rintro e w7 ⟨A7, k7, rfl, hb7, hc7⟩
          have HC7 := Aside0.mk hc7
          have HB7 := Aside0.mk hb7
          clear hc7 hb7
          go_wp2_with fail
          refine HC7.out.mono ?_
          rintro e w8 ⟨rfl, hC8, hb8⟩
          have hb78 := HB7.out.trans hb8
          have c3 := (hb78.cell (p := ⟨w.heap.size + 1 + 1, 0, none⟩) (by show w.heap.size + 1 + 1 < _; omega)).trans C3.out.1
          have d3 := (froz_below hb78 (b := w.heap.size + 1 + 1) (o := 0) (by omega)).trans C3.out.2
          have HC8 := Aside0.mk hC8
          have HB8 := Aside0.mk (HB6.out.trans (hb78.mono (by omega)))
          clear hC8 hb8 hb78
          go_wp2
          (try simp only [Exit.inBlock, Exit.then])
          refine bodyPost_ret (res35 _ _ _ A7 _ _ rfl (World.cell?_setCell_same' _ _ _ (by rw [c3]; rfl))) rfl ?_
          refine ⟨below_sets9 HB8.out (by omega), .inl ⟨by simp only [argB, hv, hh, hn, hd]; rfl, A7, k7, rfl, ?_⟩⟩
          exact HC8.out _ (fun k hk => Below.heap_setCell _ _ _ _ (by show k ≠ w.heap.size + 1 + 1; omega))
end
section
theorem ownS_len (l : List S26) (home : Int) (name : ByteArray) : (ownS l home name).length ≤ l.length := by
  have hs : (ownS l home name).length = (l.filter (ownB home name)).length := (Pure.sortR_perm _).length_eq
  rw [hs]
  exact List.length_filter_le _ _
set_option maxHeartbeats 8000000 in
set_option maxRecDepth 100000 in
theorem facts_Value.calls (A0 : Option Addr) (c0 : Nat) (l0 : List S26) (a1 : Int) (a2 : ByteArray) (a3 a4 : Int) (r1 : Int) (r2 : Bool) (r3 : Int) (w : World) (hr0 : Kd.C k26 w A0 l0.length l0) (hc0 : l0.length ≤ c0) (h : facts_Value.f l0 a1 a2 a3 a4 = some (r1, r2, r3)) :
    Calls Tryz.prog 12 #[.slice A0 l0.length c0, .int .i64 a1, .string a2, .int .i64 a3, .int .i64 a4] w fun e w' => e = .returned (.tuple #[.int .i64 r1, .bool r2, .int .i64 r3]) ∧ Below w.heap.size w w' := by
  unfold facts_Value.f at h
  split at h
  case isFalse => exact absurd h (by simp)
  rename_i hlen
  have H := Aside0.mk (Option.some.inj h)
  have HR0 := Aside0.mk hr0
  have HC0 := Aside0.mk hc0
  clear h hr0 hc0
  go_enter Tryz.func12, Tryz.ntmps12
  go_wp2_with fail
  have hb : Below w.heap.size w (w.alloc (Obj.cells #[Value.int IntKind.i64 a3, Value.int IntKind.i64 a4] 3)) := below_alloc (Below.refl _ _) _
  refine (of35 A0 c0 l0 a1 a2 w.heap.size 2 [a3, a4] _ (Kd.C_below HR0.out hb) HC0.out hlen (fun j hj => ?_) (by simp) (by simp)).mono ?_
  · have hj2 : j = 0 ∨ j = 1 := by simp at hj; omega
    rcases hj2 with rfl | rfl <;> go_simp
  have HB := Aside0.mk hb
  clear hb
  rintro e w2 ⟨hb2, ⟨ha, A, c, rfl, hC⟩ | ⟨ha, rfl⟩⟩
  · have H2 := H.out
    rw [if_pos ha] at H2
    have HB2 := Aside0.mk (below_step HB.out hb2)
    have hon := on36 A c (ownS l0 a1 a2) a3 a4 (w2.alloc (Obj.cells #[Value.slice A (ownS l0 a1 a2).length c] 55)) (Nat.lt_of_le_of_lt (ownS_len _ _ _) hlen) (Kd.C_below hC (below_alloc (Below.refl _ _) _))
    have HO := Aside0.mk hon
    clear hon hC hb2 H
    generalize onF (ownS l0 a1 a2) a3 a4 = r at *
    generalize (ownS l0 a1 a2).length = n at *
    go_wp2_with (go_at_call 36; refine HO.out.mono ?_; rintro e w3 ⟨rfl, hb3⟩)
    (try simp only [Exit.inBlock, Exit.then])
    refine bodyPost_ret (results_tmp3 rfl _ _ _) rfl ?_
    simp only [Prod.mk.injEq] at H2
    obtain ⟨rfl, rfl, rfl⟩ := H2
    exact ⟨rfl, below_step (below_alloc HB2.out _) hb3⟩
  · have H2 := H.out
    rw [if_neg (by rw [ha]; simp)] at H2
    simp only [Prod.mk.injEq] at H2
    obtain ⟨rfl, rfl, rfl⟩ := H2
    go_wp2
    (try simp only [Exit.inBlock, Exit.then])
    refine bodyPost_ret (results_tmp3 rfl _ _ _) rfl ?_
    exact ⟨rfl, below_alloc (below_step HB.out hb2) _⟩
end
end

end Go.Proofs.YthcjocojngochaaGreatDoor.X
