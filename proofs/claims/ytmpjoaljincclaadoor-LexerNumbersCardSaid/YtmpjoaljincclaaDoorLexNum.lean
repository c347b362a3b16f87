/- One number as a whole source: what Lex returns for it. No Go and no memory in it. -/
import Derived.Test.YtmpjoaljincclaaDoorLexWrite
namespace Go.Proofs.YtmpjoaljincclaaDoor.Pure
open Go.RowKit Go.Proofs.YtmpjoaljincclaaDoor.X Go.Proofs.YtmpjoaljincclaaDoorW.PrintWords

theorem lex_one (W t : List UInt8) (c : UInt8) (hW : W = c :: t) (hc : isDigit c = true) (hp : ∀ b ∈ W, partB true b = true) (hs : W.length ≤ 8000) (N D e : Int) (hv : valF ⟨W.toArray⟩ = (N, D, e)) :
    lexF ⟨W.toArray⟩ = if e = 0 then ([⟨2, 0, ⟨#[]⟩, ⟨N, D⟩⟩], 0, 0) else ([], e, 0) := by
  have hpl : partLen true W = W.length := by
    have := List.takeWhile_append_of_pos (l₂ := []) hp
    rw [List.append_nil, List.takeWhile_nil, List.append_nil] at this
    unfold partLen
    rw [this]
  have htk : W.take W.length = W := List.take_length
  have ht : tokL W = (e, W.length, fun a => ⟨2, a, ⟨#[]⟩, ⟨N, D⟩⟩) := by
    have e4 : tokL (c :: t) = ((valF ⟨((c :: t).take (partLen true (c :: t))).toArray⟩).2.2, partLen true (c :: t), fun a => ⟨2, a, ⟨#[]⟩, ⟨(valF ⟨((c :: t).take (partLen true (c :: t))).toArray⟩).1, (valF ⟨((c :: t).take (partLen true (c :: t))).toArray⟩).2.1⟩⟩) := by
      unfold tokL
      simp only
      rw [if_pos hc]
    rw [← hW, hpl, htk, hv] at e4
    exact e4
  have hsk : skipN false W = 0 := by rw [hW]; exact skip_digit c hc t
  have hpast : past W = W := by unfold past; rw [hsk, List.drop_zero]
  have hne : W ≠ [] := by rw [hW]; simp
  by_cases h0 : e = 0
  · rw [if_pos h0]
    have hrun : Run W 0 [⟨2, 0, ⟨#[]⟩, ⟨N, D⟩⟩] [] W.length := by
      have hn : Run (W.drop W.length) W.length [] [] W.length := by
        rw [List.drop_length]
        have := Run.nil [] W.length
        simpa [past, skipN] using this
      have := Run.cons (l := W) (o := 0) (ts := []) (l' := []) (o' := W.length) (by rw [hpast]; exact hne) (by rw [hpast, ht]; exact h0) (by rw [hpast, hsk, ht]; simpa using hn)
      rw [hpast, hsk, ht] at this
      exact this
    exact lex_of_run ⟨W.toArray⟩ hs hrun (by simp)
  · rw [if_neg h0]
    have hte : (tokL W).1 ≠ 0 := by rw [ht]; exact h0
    obtain ⟨ts, l', o', hr, hcs⟩ := lex_run ⟨W.toArray⟩ hs
    have hr2 : Run W 0 ts l' o' := hr
    obtain ⟨e1, e2⟩ := run_err hpast hte hr2
    have hlen := run_len hr2
    rw [e2] at hlen
    rcases hcs with ⟨h1, _, _⟩ | ⟨_, h2, _⟩ | ⟨_, _, _, h3⟩
    · exact absurd (e2.symm.trans h1) hne
    · rw [e1] at h2; simp at h2
    · rw [h3, e2, ht, show o' = 0 by omega]
      rfl
theorem zer : ∀ l : List UInt8, (∀ b ∈ l, b = 48) → numOf l 0 = 0
  | [], _ => rfl
  | b :: l, h => by
    have hb := h b List.mem_cons_self
    subst hb
    exact zer l (fun x hx => h x (List.mem_cons_of_mem _ hx))
/-- Digits before the point, and none, one or two behind it. -/
theorem three_vals (D : List UInt8) (n u v : Nat) (hd : ∀ c ∈ D, isDigit c = true) (h9 : D.length ≤ 9) (hn : numOf D 0 = n) (hu : u < 10) (hv : v < 10) :
    valF ⟨(D ++ 46 :: [UInt8.ofNat (48 + u), UInt8.ofNat (48 + v)]).toArray⟩ = ratMk ((100 * n + 10 * u + v : Nat) : Int) 100 ∧ valF ⟨(D ++ 46 :: [UInt8.ofNat (48 + u)]).toArray⟩ = ratMk ((10 * n + u : Nat) : Int) 10 ∧ valF ⟨D.toArray⟩ = ratMk (n : Int) 1 := by
  refine ⟨?_, ?_, ?_⟩
  · rw [val_point _ D [UInt8.ofNat (48 + u), UInt8.ofNat (48 + v)] (mk_list _) hd (by
      intro c hc
      rcases List.mem_cons.mp hc with rfl | hc
      · exact isdig_one u hu
      · rw [List.mem_singleton.mp hc]; exact isdig_one v hv) h9 (by simp) (by simp)]
    rw [show D ++ [UInt8.ofNat (48 + u), UInt8.ofNat (48 + v)] = (D ++ [UInt8.ofNat (48 + u)]) ++ [UInt8.ofNat (48 + v)] by simp, numOf_app, numOf_app, hn, numOf_one u _ hu, numOf_one v _ hv]
    rw [show 10 * (10 * n + u) + v = 100 * n + 10 * u + v by omega]
    rfl
  · rw [val_point _ D [UInt8.ofNat (48 + u)] (mk_list _) hd (by
      intro c hc
      rw [List.mem_singleton.mp hc]; exact isdig_one u hu) h9 (by simp) (by simp)]
    rw [numOf_app, hn, numOf_one u _ hu]
    rfl
  · rw [val_int _ (by rw [mk_list]; exact hd) (by rw [mk_size]; exact h9), mk_list, hn]
end Go.Proofs.YtmpjoaljincclaaDoor.Pure

