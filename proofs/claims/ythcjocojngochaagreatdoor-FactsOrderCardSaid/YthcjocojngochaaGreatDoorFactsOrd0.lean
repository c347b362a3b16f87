/- Facts: the order of the register over the records of the program; sorting by it. No Go and no memory in it. -/
import Derived.Test.YthcjocojngochaaGreatDoorXx0
import Derived.Test.YthcjocojngochaaGreatDoorBytes
import Derived.Test.YthcjocojngochaaGreatDoorFactsBase
namespace Go.Proofs.YthcjocojngochaaGreatDoor.Pure
open Go.RowKit Go.Proofs.YthcjocojngochaaGreatDoor.X Go.Proofs.YthcjocojngochaaGreatDoorW.PrintWords
set_option linter.unusedVariables false
theorem nat_inj : ∀ l m : List UInt8, l.map UInt8.toNat = m.map UInt8.toNat → l = m
  | [], [], _ => rfl
  | [], _ :: _, h => by cases h
  | _ :: _, [], h => by cases h
  | a :: l, b :: m, h => by
    obtain ⟨h1, h2⟩ := List.cons.inj h
    rw [UInt8.toNat_inj.1 h1, nat_inj l m h2]
/-- false before true. -/
def cmpG (a b : Bool) : Int := if a = b then 0 else if b then -1 else 1
theorem cmpG_weak {α : Type} (f : α → Bool) : WeakC (fun a b => cmpG (f a) (f b)) where
  refl a := by simp [cmpG]
  anti a b h := by revert h; show cmpG (f a) (f b) < 0 → 0 < cmpG (f b) (f a); cases f a <;> cases f b <;> decide
  anti' a b h := by revert h; show 0 < cmpG (f a) (f b) → cmpG (f b) (f a) < 0; cases f a <;> cases f b <;> decide
  tra a b d h k := by revert h k; show cmpG (f a) (f b) ≤ 0 → cmpG (f b) (f d) < 0 → cmpG (f a) (f d) < 0; cases f a <;> cases f b <;> cases f d <;> decide
  tra' a b d h k := by revert h k; show cmpG (f a) (f b) < 0 → cmpG (f b) (f d) ≤ 0 → cmpG (f a) (f d) < 0; cases f a <;> cases f b <;> cases f d <;> decide
theorem cmpG_zero {a b : Bool} : cmpG a b = 0 → a = b := by cases a <;> cases b <;> decide
/-- The comparison of records: known, home, name, from, until, value, gone. -/
def cmpR : S26 → S26 → Int :=
  thenC (fun a b => cmpI a.f4 b.f4) (thenC (fun a b => cmpI a.f0 b.f0) (thenC (fun a b => cmpL (a.f1.toList.map UInt8.toNat) (b.f1.toList.map UInt8.toNat))
    (thenC (fun a b => cmpI a.f3.f0 b.f3.f0) (thenC (fun a b => cmpI a.f3.f1 b.f3.f1) (thenC (fun a b => cmpI a.f2 b.f2) (fun a b => cmpG a.f5 b.f5))))))
theorem cmpR_weak : WeakC cmpR :=
  (cmpI_weak _).then_ ((cmpI_weak _).then_ ((cmpL_weak _).then_ ((cmpI_weak _).then_ ((cmpI_weak _).then_ ((cmpI_weak _).then_ (cmpG_weak _))))))
theorem cmpR_zero (a b : S26) (h : cmpR a b = 0) : a = b := by
  obtain ⟨h1, h⟩ := thenC_zero.1 h
  obtain ⟨h2, h⟩ := thenC_zero.1 h
  obtain ⟨h3, h⟩ := thenC_zero.1 h
  obtain ⟨h4, h⟩ := thenC_zero.1 h
  obtain ⟨h5, h⟩ := thenC_zero.1 h
  obtain ⟨h6, h⟩ := thenC_zero.1 h
  have e3 : a.f1 = b.f1 := by
    have := cmpL_zero _ _ h3
    exact ba_inj.1 (nat_inj _ _ this)
  have e1 := cmpI_zero.1 h1
  have e2 := cmpI_zero.1 h2
  have e4 := cmpI_zero.1 h4
  have e5 := cmpI_zero.1 h5
  have e6 := cmpI_zero.1 h6
  have e7 := cmpG_zero h
  obtain ⟨a0, a1, a2, ⟨a3, a3'⟩, a4, a5⟩ := a
  obtain ⟨b0, b1, b2, ⟨b3, b3'⟩, b4, b5⟩ := b
  simp only at e1 e2 e3 e4 e5 e6 e7
  subst e1 e2 e3 e4 e5 e6 e7
  rfl
def ltR (a b : S26) : Bool := decide (cmpR a b < 0)
theorem ltR_lin : Lin ltR := cmpR_weak.lin cmpR_zero
theorem ltR_known (a b : S26) (h : a.f4 < b.f4) : ltR a b = true := by
  refine decide_eq_true ?_
  unfold cmpR thenC
  have : cmpI a.f4 b.f4 = -1 := by unfold cmpI; rw [if_pos h]
  rw [if_pos (by show cmpI a.f4 b.f4 ≠ 0; rw [this]; decide)]
  show cmpI a.f4 b.f4 < 0
  rw [this]; decide
/-! Sorting by it. -/
def insR (x : S26) : List S26 → List S26
  | [] => [x]
  | y :: r => if ltR y x then y :: insR x r else x :: y :: r
/-- Records in the order of the register. -/
def sortR (l : List S26) : List S26 := l.foldr insR []
abbrev Up (l : List S26) : Prop := l.Pairwise (fun a b => ltR b a = false)
theorem insR_perm (x : S26) : ∀ l, (insR x l).Perm (x :: l)
  | [] => List.Perm.refl _
  | y :: r => by
    unfold insR
    split
    · exact ((insR_perm x r).cons y).trans (List.Perm.swap _ _ _)
    · exact List.Perm.refl _
theorem insR_up (x : S26) : ∀ l, Up l → Up (insR x l)
  | [], _ => List.pairwise_singleton _ _
  | y :: r, h => by
    obtain ⟨h1, h2⟩ := List.pairwise_cons.mp h
    unfold insR
    split
    · rename_i hlt
      refine List.pairwise_cons.mpr ⟨fun z hz => ?_, insR_up x r h2⟩
      rcases List.mem_cons.mp ((insR_perm x r).mem_iff.mp hz) with rfl | hz
      · exact ltR_lin.asym hlt
      · exact h1 z hz
    · rename_i hlt
      have hlt : ltR y x = false := Bool.eq_false_iff.mpr hlt
      refine List.pairwise_cons.mpr ⟨fun z hz => ?_, h⟩
      rcases List.mem_cons.mp hz with rfl | hzr
      · exact hlt
      · cases h3 : ltR z x with
        | false => rfl
        | true =>
          cases h4 : ltR x y with
          | true =>
            have := ltR_lin.tra z x y h3 h4
            rw [h1 z hzr] at this
            cases this
          | false =>
            obtain rfl := ltR_lin.tri x y h4 hlt
            rw [h1 z hzr] at h3
            cases h3
theorem sortR_perm (l : List S26) : (sortR l).Perm l := by
  induction l with
  | nil => exact List.Perm.refl _
  | cons x r ih => exact (insR_perm x _).trans (ih.cons x)
theorem sortR_up (l : List S26) : Up (sortR l) := by
  induction l with
  | nil => exact List.Pairwise.nil
  | cons x r ih => exact insR_up x _ ih
/-- Whatever sorts, returns this list. -/
theorem sortR_one (l m : List S26) (hp : m.Perm l) (hu : Up m) : m = sortR l := by
  refine List.Perm.eq_of_pairwise (le := fun a b => ltR b a = false) (fun a b _ _ h1 h2 => ?_) hu (sortR_up l) (hp.trans (sortR_perm l).symm)
  exact ltR_lin.tri a b h2 h1
end Go.Proofs.YthcjocojngochaaGreatDoor.Pure

