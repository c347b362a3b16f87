/- The law SetoffParts as a statement over numbers and lists: every input answers true. No Go and no memory in it. -/
import Derived.Test.YtnkgnjklkocojaaGreatDoorSoCall
import Derived.Test.YtnkgnjklkocojaaGreatDoorXx17
namespace Go.Proofs.YtnkgnjklkocojaaGreatDoor.Pure
open Go.RowKit Go.Proofs.YtnkgnjklkocojaaGreatDoor.X Go.Proofs.YtnkgnjklkocojaaGreatDoorW.PrintWords
set_option linter.unusedVariables false
theorem SetoffParts : ∀ (l0 : List S39) (a1 : Int) (a2 : Int), l0.length * 32 ≤ 140737488351232 → (∀ x ∈ l0, (Lit.int .i64 x.f0).wf = true ∧ (Lit.int .i64 x.f1).wf = true ∧ (Lit.int .i64 x.f2).wf = true ∧ (Lit.int .i64 x.f3).wf = true) → (Lit.int .i64 a1).wf = true → (Lit.int .i64 a2).wf = true → ∃ k, cohousinglaw34_SetoffParts.f k l0 a1 a2 = some true := by
  intro l0 a1 a2 y0 hw0 w1 w2
  refine ⟨20 + 100, ?_⟩
  unfold cohousinglaw34_SetoffParts.f
  rw [head_true, Option.bind_some, if_pos rfl]
  have jt : cohousinglaw34_SetoffParts.j0 (20 + 100) l0 a1 a2 true = some true := by rw [cohousinglaw34_SetoffParts.j0, if_pos rfl]
  by_cases c1 : a1 < 0
  · rw [if_pos c1, jt]
  by_cases c2 : a1 > 1000000000
  · rw [if_neg c1, if_pos c2, jt]
  by_cases c3 : a2 < 0
  · rw [if_neg c1, if_neg c2, if_pos c3, jt]
  have hin := so_in l0 y0 hw0
  rw [if_neg c1, if_neg c2, if_neg c3, wrapIn (1000000000 - a1) (by omega)]
  by_cases c4 : a2 > 1000000000 - a1
  · rw [decide_eq_true c4, jt]
  rw [decide_eq_false c4, cohousinglaw34_SetoffParts.j0, if_neg (by simp), wrapIn (a1 + a2) (by omega)]
  by_cases hd : Debts l0
  · obtain ⟨hm, e1, e2⟩ := parts_pay l0 hd a1 a2 (by omega) (by omega) (by omega)
    have b1 := (pay_off l0 a1 hd (by omega) (by omega)).left
    have b2 := (pay_off (payF l0 a1).1 a2 hm (by omega) (by omega)).left
    rw [pay_f hd a1 (by omega) (by omega), Option.bind_some]
    dsimp only
    rw [pay_f hm a2 (by omega) (by omega), Option.bind_some]
    dsimp only
    rw [pay_f hd (a1 + a2) (by omega) (by omega), Option.bind_some]
    dsimp only
    have hl : (payF l0 (a1 + a2)).1.length ≤ 100 := by rw [(pay_off l0 (a1 + a2) hd (by omega) (by omega)).len]; exact hd.len
    rw [if_pos rfl, if_pos rfl, if_pos rfl, e1, same_self _ (by omega) _ (by omega), Option.bind_some, if_pos rfl, wrapIn _ (by omega), if_pos e2]
  · rw [pay_no hin a1 hd, Option.bind_some]
    dsimp only
    rw [pay_f no_debts a2 (by omega) (by omega), Option.bind_some]
    dsimp only
    rw [pay_no hin (a1 + a2) hd, Option.bind_some]
    dsimp only
    rw [if_neg (by decide), if_pos rfl, if_pos rfl]
end Go.Proofs.YtnkgnjklkocojaaGreatDoor.Pure

