/- What the law's parts compute on debts, in plain words. No Go and no memory in it. -/
import Derived.Test.YtnkgnjklkocojaaGreatDoorSoParts
import Derived.Test.YtnkgnjklkocojaaGreatDoorSoHead
import Derived.Test.YtnkgnjklkocojaaGreatDoorXx17
namespace Go.Proofs.YtnkgnjklkocojaaGreatDoor.Pure
open Go.RowKit Go.Proofs.YtnkgnjklkocojaaGreatDoor.X Go.Proofs.YtnkgnjklkocojaaGreatDoorW.PrintWords
set_option linter.unusedVariables false
theorem wrapUp (i : Nat) (h : i ≤ 1000000) : wrap64 ((i : Int) + 1) = ((i + 1 : Nat) : Int) := by unfold wrap64; omega
theorem rdNat (l : List S39) (i : Nat) : rd_T39 l (i : Int) = l.getD i z39 := by simp [rd_T39]
theorem in_debts {l : List S39} (h : Debts l) : l.length < 4398046511104 ∧ l.all (fun x => inI x.f0) = true :=
  ⟨by have := h.len; omega, List.all_eq_true.mpr (fun x hx => inI_iff.mpr (by have := (dOk_iff x).mp (h.ok x hx); omega))⟩
theorem pay_f {l : List S39} (h : Debts l) (c : Int) (h0 : 0 ≤ c) (h1 : c ≤ 1000000000) : setoff_Pay.f l c = some ((payF l c).1, (payF l c).2, 0) := by
  unfold setoff_Pay.f
  rw [if_pos (in_debts h), if_pos ⟨((valid_iff l).mpr h).1, h.len, h0, h1⟩]
theorem pay_no {l : List S39} (hin : l.length < 4398046511104 ∧ l.all (fun x => inI x.f0) = true) (c : Int) (h : ¬ Debts l) : setoff_Pay.f l c = some ([], 0, 1) := by
  unfold setoff_Pay.f
  rw [if_pos hin, if_neg (fun q => h ((valid_iff l).mp ⟨q.1, q.2.1⟩))]
theorem no_debts : Debts [] := ⟨by simp, by simp, by simp⟩
theorem same_loop (l : List S39) (h : l.length ≤ 1000000) : ∀ (j i k : Nat), i + j = l.length → j < k → cohousingref34_Same.l0 k l l (i : Int) = some true := by
  intro j
  induction j with
  | zero =>
    intro i k hi hk
    obtain ⟨k, rfl⟩ : ∃ n, k = n + 1 := ⟨k - 1, by omega⟩
    rw [cohousingref34_Same.l0, if_neg (by omega)]
  | succ j ih =>
    intro i k hi hk
    obtain ⟨k, rfl⟩ : ∃ n, k = n + 1 := ⟨k - 1, by omega⟩
    rw [cohousingref34_Same.l0, if_pos (by omega), if_pos (by omega), if_pos (by omega), if_neg (by simp), wrapUp i (by omega)]
    exact ih (i + 1) k (by omega) (by omega)
theorem same_self (l : List S39) (h : l.length ≤ 1000000) (k : Nat) (hk : l.length < k) : cohousingref34_Same.f k l l = some true := by
  unfold cohousingref34_Same.f
  rw [if_pos rfl]
  exact same_loop l h l.length 0 k (by omega) hk
theorem head_true (k : Nat) : cohousinglaw34_head.f (20 + k) = some true := LeO_up cohousinglaw34_head.mono 20 k true head_ok
end Go.Proofs.YtnkgnjklkocojaaGreatDoor.Pure

