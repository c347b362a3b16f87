/- The law LexerErrors as a statement over numbers and lists: every input answers true. No Go and no memory in it. -/
import Derived.Test.YtmpjoaljincclaaDoorLexHead
import Derived.Test.YtmpjoaljincclaaDoorXx14
namespace Go.Proofs.YtmpjoaljincclaaDoor.Pure
open Go.RowKit Go.Proofs.YtmpjoaljincclaaDoor.X Go.Proofs.YtmpjoaljincclaaDoorW.PrintWords

theorem lex_f (s : ByteArray) : lexer_Lex.f s = some (lexF s) := rfl
theorem LexerErrors : ∀ (a0 : ByteArray), a0.size ≤ 140737488351232 → cohousinglaw07_LexerErrors.f a0 = some true := by
  intro s _
  unfold cohousinglaw07_LexerErrors.f
  rw [head_ok, Option.bind_some, if_pos rfl]
  by_cases h1 : (s.size : Int) > 8100
  · rw [if_pos h1]
  · rw [if_neg h1, lex_f, Option.bind_some]
    by_cases h2 : 8000 < s.size
    · have e : lexF s = ([], 2, 0) := by unfold lexF; rw [if_pos h2]
      have e2 : s.extract 0 ((0 : Int)).toNat = ⟨#[]⟩ := by rw [← ba_inj, ba_extract]; simp [ba_toList]
      rw [e]
      simp only
      rw [if_neg (by decide), if_pos (by rfl), if_neg (by decide), if_neg (by omega), if_pos (by decide), if_pos (by omega), e2, lex_f, Option.bind_some]
      have e3 : lexF ⟨#[]⟩ = ([], 0, 0) := by
        refine lex_of_run ⟨#[]⟩ (by decide) (ts := []) (o' := 0) ?_ (by simp)
        exact Run.nil [] 0
      rw [e3, if_pos rfl]
    · obtain ⟨ts, l', o', hr, hc⟩ := lex_run s (by omega)
      rcases hc with ⟨_, _, e⟩ | ⟨hne, hl, e⟩ | ⟨hne, hl, herr, e⟩
      · rw [e, if_pos rfl, if_pos rfl]
      all_goals
        have hd := run_drop hr
        have hlen := run_len hr
        have hpos : 0 < l'.length := List.length_pos_iff.mpr hne
        have hsz : s.data.toList.length = s.size := by simp
        have hf := run_front hr
        have e2 : s.extract 0 ((o' : Nat) : Int).toNat = ⟨(s.data.toList.take o').toArray⟩ := by
          rw [← ba_inj, ba_extract, ba_mk, ba_toList]
          simp
        have e3 : lexF ⟨(s.data.toList.take o').toArray⟩ = (ts, 0, 0) := lex_of_run _ (by show (s.data.toList.take o').length ≤ 8000; rw [List.length_take]; omega) (o' := o') (by exact hf) (by omega)
        rw [e]
        simp only
        rw [if_neg (by first | decide | exact herr), if_pos (by rfl), if_neg (by omega), if_neg (by omega), if_pos (by omega), if_pos (by omega), e2, lex_f, e3, Option.bind_some, if_pos rfl]
end Go.Proofs.YtmpjoaljincclaaDoor.Pure

