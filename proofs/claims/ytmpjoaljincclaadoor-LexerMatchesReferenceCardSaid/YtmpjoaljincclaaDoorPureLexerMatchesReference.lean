/- LexerMatchesReference: no Go and no memory in it. -/
import Derived.Test.YtmpjoaljincclaaDoorXx10
import Derived.Test.YtmpjoaljincclaaDoorLexRef3
import Derived.Test.YtmpjoaljincclaaDoorLexHead
namespace Go.Proofs.YtmpjoaljincclaaDoor.Pure
open Go.RowKit Go.Proofs.YtmpjoaljincclaaDoor.X Go.Proofs.YtmpjoaljincclaaDoorW.PrintWords

theorem LexerMatchesReference : ∀ (a0 : ByteArray), a0.size ≤ 140737488351232 → ∃ k, cohousinglaw07_LexerMatchesReference.f k a0 = some true := by
  intro s _
  obtain ⟨K, hK⟩ : ∃ K : Nat, 20000000000000300000 ≤ K := ⟨_, Nat.le_refl _⟩
  refine ⟨K, ?_⟩
  unfold cohousinglaw07_LexerMatchesReference.f
  rw [head_ok, Option.bind_some, if_pos rfl]
  by_cases h1 : (s.size : Int) > 8100
  · rw [if_pos h1]
  · have hl := lexF_len s
    have hs : cohousingref07_Same.f (lexF s).1 (lexF s).1 0 = some true := by
      unfold cohousingref07_Same.f
      rw [if_pos (by omega), sameL_self _ (fun t ht => by have := hl.2 t ht; omega)]
    rw [if_neg h1, show lexer_Lex.f s = some (lexF s) from rfl, Option.bind_some, ref_lex s K hK, Option.bind_some, hs, Option.bind_some, if_pos rfl, if_pos rfl, if_pos rfl]
end Go.Proofs.YtmpjoaljincclaaDoor.Pure

