/- What my hand-proved texts of this seat share: the premise GL on the world (the package-level tables and sentinels hold what the program's text lays there), and that it lives on. -/
import Derived.Test.YthcjocojngochaaGreatDoorShelf
import Derived.Defers
import Derived.Recover
import Derived.Tactics2
import Derived.Laws.Pointers
import Derived.Lib.Hide
import Derived.Lib.LaidTab
import Derived.Lib.AppendIntMem
import Derived.Lib.AtoiErrMem
import Derived.WalkKit
import Derived.KernelRfl
import Derived.LoopTactic
import Derived.Scope
import Derived.WalkMore
import Derived.WalkLawsBesides
import Derived.WalkSpells
import Derived.Test.YthcjocojngochaaGreatDoorWWords
import Derived.Test.YthcjocojngochaaGreatDoorBytes
import Derived.Deep.RegionHeld3
import Derived.Outline
import Derived.Deep.DeepFit
import Derived.Deep.RegionHeld3
import Derived.Deep.AppendLies
import Derived.Deep.DrawnRows
import Derived.Laws.RangeString
namespace Go.Proofs.YthcjocojngochaaGreatDoor.X
open Go.RowKit Go.Proofs.YthcjocojngochaaGreatDoorW.PrintWords
/- Short names for what the printed texts write often. -/
abbrev bA := @below_alloc
abbrev bN := @pw_below_drewN
abbrev b1 := @below_drew1
abbrev bS := @below_set
abbrev kN := @blk_drewN
abbrev kD := @blk_drew
abbrev kA := @blk_alloc
abbrev dT := @decide_eq_true
abbrev dF := @decide_eq_false
abbrev oT := @of_decide_eq_true
abbrev bT := @below_step
abbrev kF := @blk_far
abbrev kB := @blk_below
abbrev bZ := @below_size
abbrev bH := @below_then
abbrev kC := @blk_cell

structure GL (w : World) : Prop where
  pow : Lib.TabIs Tryz.prog w "internal/strconv.uint64pow10" .u64 Lib.pow10Tab
  syn : ∃ tp p, w.var? Tryz.prog "strconv.ErrSyntax" = some #[.iface tp p]
  rng : ∃ tp p, w.var? Tryz.prog "strconv.ErrRange" = some #[.iface tp p]
theorem var_below {w w1 : World} {nm : String} {cs : Array Value} (h : w.var? Tryz.prog nm = some cs) (hb : Below w.heap.size w w1) : w1.var? Tryz.prog nm = some cs := by
  unfold World.var? at h ⊢
  cases hg : Tryz.prog.globalNamed nm with
  | none => rw [hg] at h; simp at h
  | some g =>
    rw [hg] at h
    simp only [Option.bind_some] at h ⊢
    have hlt : g < w.heap.size := by
      rcases Nat.lt_or_ge g w.heap.size with hl | hl
      · exact hl
      · rw [Array.getElem?_eq_none hl] at h; simp at h
    rw [hb.block g hlt]
    exact h
theorem GL.below {w w1 : World} (h : GL w) (hb : Below w.heap.size w w1) : GL w1 :=
  ⟨var_below h.pow hb, h.syn.elim fun tp h2 => h2.elim fun p h3 => ⟨tp, p, var_below h3 hb⟩, h.rng.elim fun tp h2 => h2.elim fun p h3 => ⟨tp, p, var_below h3 hb⟩⟩
theorem GL.drew {w : World} (h : GL w) : GL w.drew := h.below (below_drew (Below.refl _ _))
theorem GL.drewN {w : World} {n : Nat} (h : GL w) : GL (w.drewN n) := h.below (pw_below_drewN (Below.refl _ _) n)
theorem GL.alloc {w : World} {o : Obj} (h : GL w) : GL (w.alloc o) := h.below (below_alloc (Below.refl _ _) o)
theorem enters0 {P : Program} {f : FuncId} {fn : Func} {c : Code} (hf : P.funcs[f]? = some fn) (hname : (fn.name == "runtime.NumGoroutine") = false) (hb : fn.body = some c) : ∀ args w, (callFunc f args).run P w = .ok (.enter f args) w := by
  intro args w
  have h1 : fn.name ≠ "runtime.NumGoroutine" := by simpa using hname
  simp [callFunc, hf, h1, hb, mark]
theorem bcell {W w1 : World} (hb : Below W.heap.size W w1) : (∀ b o, b < W.heap.size → w1.cell? ⟨b, o, none⟩ = W.cell? ⟨b, o, none⟩) ∧ (∀ b o, b < W.heap.size → w1.frozen? ⟨b, o, none⟩ = W.frozen? ⟨b, o, none⟩) :=
  ⟨fun b o h => hb.cell (p := ⟨b, o, none⟩) h, fun b o h => hb.frozen (p := ⟨b, o, none⟩) h⟩
def inI64 (n : Int) : Prop := -9223372036854775808 ≤ n ∧ n ≤ 9223372036854775807
instance (n : Int) : Decidable (inI64 n) := inferInstanceAs (Decidable (_ ∧ _))
end Go.Proofs.YthcjocojngochaaGreatDoor.X

