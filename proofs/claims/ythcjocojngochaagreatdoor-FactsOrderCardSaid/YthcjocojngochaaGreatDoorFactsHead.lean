/- Facts: the example of the laws answers true; equal sets of days are the same. No Go and no memory in it. -/
import Derived.Test.YthcjocojngochaaGreatDoorFactsOrd
import Derived.Test.YthcjocojngochaaGreatDoorSpanBase
namespace Go.Proofs.YthcjocojngochaaGreatDoor.Pure
open Go.RowKit Go.Proofs.YthcjocojngochaaGreatDoor.X Go.Proofs.YthcjocojngochaaGreatDoorW.PrintWords
set_option linter.unusedVariables false
def pers : ByteArray := ⟨#[112, 101, 114, 115, 111, 110, 115]⟩
def exR : List Rec := [⟨1, pers, 2, ⟨0, 100⟩, 0, false⟩, ⟨1, pers, 3, ⟨50, 60⟩, 70, false⟩, ⟨1, pers, 0, ⟨50, 60⟩, 80, true⟩]
theorem ex_v1 : facts_Value.f exR 1 pers 55 60 = some (2, true, 0) := by kernel_rfl
theorem ex_v2 : facts_Value.f exR 1 pers 55 70 = some (3, true, 0) := by kernel_rfl
theorem ex_v3 : facts_Value.f exR 1 pers 55 90 = some (0, false, 0) := by kernel_rfl
theorem ex_v4 : facts_Value.f exR 1 ⟨#[80, 101, 114, 115, 111, 110, 115]⟩ 55 60 = some (0, false, 1) := by kernel_rfl
theorem ex_own : ownS exR 1 pers = exR := by kernel_rfl
theorem ex_a1 : argB exR 1 pers [75] = true := by kernel_rfl
theorem ex_a2 : argB exR 1 pers [60, 70] = true := by kernel_rfl
theorem ex_d1 : facts_Days.f exR 1 pers 2 75 = some ([⟨0, 50⟩, ⟨60, 100⟩], 0) := by
  have hd := own_days ex_a1
  rw [days_f exR 1 pers 2 75 (by decide), if_pos ex_a1]
  rw [ex_own] at hd ⊢
  rw [wh_eval exR hd]
  show _ = _
  kernel_rfl
theorem ex_d2 : facts_Differ.f exR 1 pers 60 70 = some ([⟨50, 60⟩], 0) := by
  have hd := own_days ex_a2
  rw [differ_f exR 1 pers 60 70 (by decide), if_pos ex_a2]
  rw [ex_own] at hd ⊢
  rw [wh_eval exR hd]
  show _ = _
  kernel_rfl
theorem head_ok : cohousinglaw16_head.f 20 = some true := by
  unfold cohousinglaw16_head.f
  rw [show cohousinglaw16_example.f = some exR from rfl, Option.bind_some]
  rw [show (⟨#[112, 101, 114, 115, 111, 110, 115]⟩ : ByteArray) = pers from rfl, ex_v1, Option.bind_some, ex_v2, Option.bind_some, ex_v3, Option.bind_some, ex_d1, Option.bind_some, ex_d2, Option.bind_some, ex_v4, Option.bind_some]
  kernel_rfl
theorem head_up : ∀ k, 20 ≤ k → cohousinglaw16_head.f k = some true := by
  intro k hk
  obtain ⟨n, rfl⟩ : ∃ n, k = 20 + n := ⟨k - 20, by omega⟩
  induction n with
  | zero => exact head_ok
  | succ n ih => exact cohousinglaw16_head.mono _ _ (ih (by omega))
/-- A list of stretches is the same as itself. -/
theorem same_self (l : List S24) (hl : l.length ≤ 8796093022208) (k : Nat) (hk : l.length < k) : cohousingref04_Same.f k l l = some true := by
  rw [same_eq l l k hl hk, tr_of rfl]
theorem rd_rec (l : List Rec) (i : Nat) (h : i < l.length) : rd_T26 l (i : Int) = l[i] := by
  simp [rd_T26, List.getD_eq_getElem?_getD, List.getElem?_eq_getElem h]
end Go.Proofs.YthcjocojngochaaGreatDoor.Pure

