/- Facts: the heart of FactsDays, FactsDiffers, FactsValues, FactsLate, over any type of records. No Go and no memory in it. -/
import Derived.Test.YthcjocojngochaaGreatDoorFactsRec
namespace Go.Proofs.YthcjocojngochaaGreatDoor.Pure
open Go.RowKit Go.Proofs.YthcjocojngochaaGreatDoor.X Go.Proofs.YthcjocojngochaaGreatDoorW.PrintWords
set_option linter.unusedVariables false
variable {α : Type}
theorem apart_none (l : List S24) (h : Apart l) (e : ∀ d, mem l d = false) : l = [] :=
  apart_ext l [] h Apart.nil fun d => (e d).trans rfl
/-- The days of a value. -/
def Fld.dayP (F : Fld α) (s : List α) (value known d : Int) : Bool := (F.on s d known).2 && decide ((F.on s d known).1 = value)
def Fld.difP (F : Fld α) (s : List α) (a b d : Int) : Bool := decide (F.on s d a ≠ F.on s d b)
theorem Fld.days_mem (F : Fld α) (s : List α) (hd : F.Days s) (value known d : Int) :
    mem (F.wh s (F.dayP s value known)) d = true ↔ 0 ≤ d ∧ d < 36525 ∧ (F.on s d known).2 = true ∧ (F.on s d known).1 = value := by
  have := F.wh_days s hd (fun x _ => x.2 && decide (x.1 = value)) known known d
  refine Iff.trans (show mem (F.wh s (F.dayP s value known)) d = true ↔ _ from this) ?_
  simp
theorem Fld.differ_mem (F : Fld α) (s : List α) (hd : F.Days s) (a b d : Int) :
    mem (F.wh s (F.difP s a b)) d = true ↔ 0 ≤ d ∧ d < 36525 ∧ F.on s d a ≠ F.on s d b := by
  have := F.wh_days s hd (fun x y => decide (x ≠ y)) a b d
  refine Iff.trans (show mem (F.wh s (F.difP s a b)) d = true ↔ _ from this) ?_
  rw [decide_eq_true_iff]
theorem Fld.differ_swap (F : Fld α) (s : List α) (a b : Int) : F.wh s (F.difP s a b) = F.wh s (F.difP s b a) := by
  have : F.difP s a b = F.difP s b a := funext fun d => decide_eq_decide.2 ⟨fun h e => h e.symm, fun h e => h e.symm⟩
  rw [this]
/-- A day on which what is known differs lies in a record that became known in between. -/
theorem Fld.differ_in (F : Fld α) (s : List α) (hd : F.Days s) (a b d : Int) (h : mem (F.wh s (F.difP s a b)) d = true) :
    ∃ x ∈ s, ((a < F.known x ∧ F.known x ≤ b) ∨ (b < F.known x ∧ F.known x ≤ a)) ∧ F.frm x ≤ d ∧ d < F.til x := by
  obtain ⟨_, _, h3⟩ := (F.differ_mem s hd a b d).1 h
  refine Classical.byContradiction fun hc => h3 (F.on_quiet s d a b fun x hx h1 h2 => ?_)
  by_cases ha : F.known x ≤ a
  · by_cases hb : F.known x ≤ b
    · exact ⟨fun _ => hb, fun _ => ha⟩
    · exact absurd ⟨x, hx, .inr ⟨by omega, ha⟩, h1, h2⟩ hc
  · by_cases hb : F.known x ≤ b
    · exact absurd ⟨x, hx, .inl ⟨by omega, hb⟩, h1, h2⟩ hc
    · exact ⟨fun h => absurd h ha, fun h => absurd h hb⟩
/-- A fact's value is that of one of its records. -/
theorem Fld.on_value (F : Fld α) {lt : α → α → Bool} (L : Lin lt) (s : List α) (hs : s.Pairwise (fun a b => lt b a = false)) (d known : Int) (h : (F.on s d known).2 = true) : ∃ x ∈ s, F.value x = (F.on s d known).1 := by
  unfold Fld.on at h ⊢
  cases e : lastP (F.cnt known d) s with
  | none => rw [e] at h; cases h
  | some x => exact ⟨x, ((lastP_top L _ x s hs).1 e).1, rfl⟩
/-- Days of different values have no day in common. -/
theorem Fld.days_apart (F : Fld α) (s : List α) (hd : F.Days s) (v w known d : Int) (hv : v ≠ w) (h : mem (F.wh s (F.dayP s v known)) d = true) : mem (F.wh s (F.dayP s w known)) d = false := by
  have h1 := (F.days_mem s hd v known d).1 h
  cases e : mem (F.wh s (F.dayP s w known)) d with
  | false => rfl
  | true => exact absurd (h1.2.2.2.symm.trans ((F.days_mem s hd w known d).1 e).2.2.2) hv
/-- A record that becomes known later than all others decides on its days from then on. -/
theorem Fld.late (F : Fld α) {lt : α → α → Bool} (L : Lin lt) (own : α → Bool) (l s : List α) (x : α) (hs : s.Pairwise (fun a b => lt b a = false)) (es : ∀ z, z ∈ s ↔ z ∈ l ++ [x] ∧ own z = true)
    (ho : own x = true) (d known : Int) (hc : F.cnt known d x = true) (h : ∀ y ∈ l, lt y x = true) : F.on s d known = (F.value x, !F.gone x) := by
  unfold Fld.on
  rw [last_late L own _ l s x hs es ho hc h]
theorem Fld.late_aside (F : Fld α) {lt : α → α → Bool} (L : Lin lt) (own : α → Bool) (l s t : List α) (x : α) (hs : s.Pairwise (fun a b => lt b a = false)) (ht : t.Pairwise (fun a b => lt b a = false)) (es : ∀ z, z ∈ s ↔ z ∈ l ++ [x] ∧ own z = true) (et : ∀ z, z ∈ t ↔ z ∈ l ∧ own z = true)
    (d known : Int) (hc : ¬ (own x = true ∧ F.cnt known d x = true)) : F.on s d known = F.on t d known := by
  unfold Fld.on
  rw [last_aside L own _ l s t x hs ht es et hc]
end Go.Proofs.YthcjocojngochaaGreatDoor.Pure

